import Derived.Test.YtilmhlblilmcfaaTextPairs
namespace Go.Proofs.Ytilmhlblilmcfaa
open Go.RowKit
set_option linter.unusedVariables false
/-- How many pieces a split has. -/
def IsNum (s sep : List UInt8) (n : Nat) : Prop := 0 < n ∧ (∀ k, k + 1 < n → foundS s sep k = true) ∧ foundS s sep (n - 1) = false
theorem isNum_unique {s sep : List UInt8} {n n' : Nat} (h : IsNum s sep n) (h' : IsNum s sep n') : n = n' := by
  rcases Nat.lt_trichotomy n n' with e | e | e
  · have := h'.2.1 (n - 1) (by have := h.1; omega); rw [h.2.2] at this; cases this
  · exact e
  · have := h.2.1 (n' - 1) (by have := h'.1; omega); rw [h'.2.2] at this; cases this
theorem foundS_cons (s sep : List UInt8) (k : Nat) : foundS (Lib.cut s sep).2.1 sep k = foundS s sep (k + 1) := rfl
theorem isNum_exists (sep : List UInt8) (hsep : sep ≠ []) : ∀ (N : Nat) (s : List UInt8), s.length ≤ N → ∃ n, n ≤ s.length + 1 ∧ IsNum s sep n
  | N, s, hN => by
    by_cases h : (Lib.cut s sep).2.2 = true
    · have hsh := cut_shrinks s sep hsep h
      match N, hN with
      | 0, hN => omega
      | N + 1, hN =>
        obtain ⟨n, hn, h1, h2, h3⟩ := isNum_exists sep hsep N (Lib.cut s sep).2.1 (by omega)
        refine ⟨n + 1, by omega, by omega, fun k hk => ?_, ?_⟩
        · match k with
          | 0 => exact h
          | k + 1 => rw [← foundS_cons]; exact h2 k (by omega)
        · have : n + 1 - 1 = (n - 1) + 1 := by omega
          rw [this, ← foundS_cons]; exact h3
    · exact ⟨1, by omega, by omega, fun k hk => by omega, by simpa [foundS, restL] using h⟩
theorem sep_ne (sep : ByteArray) (h : 0 < sep.size) : sep.data.toList ≠ [] := by
  intro e; have : sep.data.toList.length = sep.size := rfl; rw [e] at this; simp at this; omega
theorem split_pair (s sep : ByteArray) (n : Nat) (hsep : 0 < sep.size) (hsep2 : sep.size ≤ maxLen) (hs : s.size < 4294967281) (hn : IsNum s.data.toList sep.data.toList n) (m : Int) :
    (n ≤ 4096 ∧ (∀ w, w.cell? ⟨0, 0, none⟩ = some (.int .i64 m) → Calls Try.prog 26 #[.string s, .string sep] w (SplitPost n s.data.toList sep.data.toList w)) ∧
      (∀ w, Calls Try.prog 27 #[.string s, .string sep] w (SplitPost n s.data.toList sep.data.toList w))) ∨
    (4096 < n ∧ (∀ w, w.cell? ⟨0, 0, none⟩ = some (.int .i64 m) → Calls Try.prog 26 #[.string s, .string sep] w (SplitMem w)) ∧
      (∀ w, Calls Try.prog 27 #[.string s, .string sep] w (SplitMem w))) := by
  by_cases h : n ≤ 4096
  · refine .inl ⟨h, fun w hm => split_ok s sep n m w hsep hn.1 h hs hn.2.1 hn.2.2 hm, fun w => (ref_split s sep w hsep hsep2 hs).mono fun e w' ⟨n', h1, h2, h3, h4⟩ => ?_⟩
    obtain rfl := isNum_unique hn ⟨h1, h2, h3⟩
    rcases h4 with ⟨_, h4⟩ | ⟨h4, _⟩
    · exact h4
    · omega
  · refine .inr ⟨by omega, fun w hm => split_many s sep n m w hsep hn.1 (by omega) hs hn.2.1 hn.2.2 hm, fun w => (ref_split s sep w hsep hsep2 hs).mono fun e w' ⟨n', h1, h2, h3, h4⟩ => ?_⟩
    obtain rfl := isNum_unique hn ⟨h1, h2, h3⟩
    rcases h4 with ⟨h4, _⟩ | ⟨_, h4⟩
    · omega
    · exact h4
theorem ref_split_empty (s sep : ByteArray) (w : World) (hsep : sep.size = 0) :
    Calls Try.prog 27 #[.string s, .string sep] w fun e w' => e = .returned (.tuple #[.slice none 0 0, .string ⟨#[86, 97, 108, 117, 101, 69, 114, 114, 111, 114]⟩]) ∧ w = w' := by
  have he := isE_of_zero sep hsep
  go_enter Try.func27, Try.ntmps27
  go_wp2
  go_ret2
  exact ⟨rfl, rfl⟩
theorem find_pair (s sub : ByteArray) (m : Int) (hs : s.size < 4294967281) (hsub : sub.size ≤ maxLen) :
    (∀ w, w.cell? ⟨0, 0, none⟩ = some (.int .i64 m) → Calls Try.prog 29 #[.string s, .string sub] w (Ret (.int .i64 (Lib.index s.data.toList sub.data.toList)) w)) ∧
    (∀ w, Calls Try.prog 30 #[.string s, .string sub] w (Ret (.int .i64 (Lib.index s.data.toList sub.data.toList)) w)) :=
  ⟨fun w hm => ret_same (find_i s sub m w hs hm), fun w => ret_same (ref_find s sub w (by omega) hsub)⟩
end Go.Proofs.Ytilmhlblilmcfaa
