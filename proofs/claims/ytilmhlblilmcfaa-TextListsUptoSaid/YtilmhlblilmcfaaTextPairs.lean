import Derived.Test.YtilmhlblilmcfaaText12
namespace Go.Proofs.Ytilmhlblilmcfaa
open Go.RowKit
set_option linter.unusedVariables false
def Ret (v : Value) (w : World) (e : Ending) (w' : World) : Prop := e = .returned v ∧ Below w.heap.size w w'
theorem ret_same {v : Value} {w : World} {P : Program} {f : Nat} {args : Array Value} (h : Calls P f args w fun e w' => e = .returned v ∧ w = w') : Calls P f args w (Ret v w) :=
  h.mono fun e w' h => ⟨h.1, h.2 ▸ Below.refl _ _⟩
theorem ret_drewN {v : Value} {w : World} {P : Program} {f : Nat} {args : Array Value} (h : Calls P f args w fun e w' => e = .returned v ∧ ∃ n, w' = w.drewN n) : Calls P f args w (Ret v w) :=
  h.mono fun e w' ⟨h1, n, h2⟩ => ⟨h1, h2 ▸ ⟨rfl, rfl, rfl, Nat.le_refl _, fun _ _ => rfl⟩⟩
theorem concat_pair (a b : ByteArray) (ha : a.size ≤ maxLen) (hb : b.size ≤ maxLen) : ∃ r e : ByteArray,
    (∀ w, Calls Try.prog 13 #[.string a, .string b] w (Ret (.tuple #[.string r, .string e]) w)) ∧
    (∀ w, Calls Try.prog 14 #[.string a, .string b] w (Ret (.tuple #[.string r, .string e]) w)) := by
  by_cases h : a.size + b.size ≤ 65536
  · exact ⟨_, _, fun w => ret_same (concat_ok a b w h), fun w => ret_same (ref_concat_ok a b w h)⟩
  · exact ⟨_, _, fun w => ret_same (concat_big a b w (by omega) ha hb), fun w => ret_same (ref_concat_big a b w (by omega) ha hb)⟩
theorem repeat_pair (s : ByteArray) (n : Int) (hs : s.size ≤ maxLen) : ∃ r e : ByteArray,
    (∀ w, Calls Try.prog 15 #[.string s, .int .i64 n] w (Ret (.tuple #[.string r, .string e]) w)) ∧
    (∀ w, Calls Try.prog 16 #[.string s, .int .i64 n] w (Ret (.tuple #[.string r, .string e]) w)) := by
  by_cases h : n < 1 ∨ s.size = 0
  · exact ⟨_, _, fun w => ret_same (repeat_none s n w h), fun w => ret_same (ref_repeat_none s n w hs h)⟩
  · by_cases h2 : n ≤ 65536 / (s.size : Int)
    · exact ⟨_, _, fun w => repeat_ok s n w (by omega) hs (by omega) h2, fun w => ref_repeat_ok s n w (by omega) hs (by omega) h2⟩
    · exact ⟨_, _, fun w => ret_same (repeat_big s n w (by omega) hs (by omega) (by omega)), fun w => ret_same (ref_repeat_big s n w (by omega) hs (by omega) (by omega))⟩
theorem at_pair (s : ByteArray) (i : Int) (hs : s.size ≤ maxLen) (hlo : -9223372036854775808 ≤ i) : ∃ r e : ByteArray,
    (∀ w, Calls Try.prog 18 #[.string s, .int .i64 i] w (Ret (.tuple #[.string r, .string e]) w)) ∧
    (∀ w, Calls Try.prog 19 #[.string s, .int .i64 i] w (Ret (.tuple #[.string r, .string e]) w)) := by
  by_cases h : i + s.size < 0 ∨ s.size ≤ i
  · exact ⟨_, _, fun w => ret_same (at_out s i w hs hlo h), fun w => ret_same (ref_at_out s i w hs hlo h)⟩
  · by_cases h2 : i < 0
    · exact ⟨_, _, fun w => ret_same (at_neg s i w hs h2 (by omega)), fun w => ret_same (ref_at_neg s i w hs h2 (by omega))⟩
    · exact ⟨_, _, fun w => ret_same (at_ok s i w hs (by omega) (by omega)), fun w => ret_same (ref_at_ok s i w hs (by omega) (by omega))⟩
theorem bounds_pair (n f t : Int) (hn : -9223372036854775808 ≤ n ∧ n ≤ 9223372036854775807) (hf : -9223372036854775808 ≤ f ∧ f ≤ 9223372036854775807) (ht : -9223372036854775808 ≤ t ∧ t ≤ 9223372036854775807) : ∃ r e : Int,
    (∀ w, Calls Try.prog 20 #[.int .i64 n, .int .i64 f, .int .i64 t] w (Ret (.tuple #[.int .i64 r, .int .i64 e]) w)) ∧
    (∀ w, Calls Try.prog 21 #[.int .i64 n, .int .i64 f, .int .i64 t] w (Ret (.tuple #[.int .i64 r, .int .i64 e]) w)) :=
  ⟨_, _, fun w => bounds_i n f t w hn.1 hn.2 hf.1 hf.2 ht.1 ht.2, fun w => ret_same (ref_bounds n f t w hn.1 hn.2 hf.1 hf.2 ht.1 ht.2)⟩
theorem slice_pair (s : ByteArray) (f t : Int) (hs : s.size ≤ maxLen) (hf : -9223372036854775808 ≤ f ∧ f ≤ 9223372036854775807) (ht : -9223372036854775808 ≤ t ∧ t ≤ 9223372036854775807) : ∃ r : ByteArray,
    (∀ w, Calls Try.prog 22 #[.string s, .int .i64 f, .int .i64 t] w (Ret (.string r) w)) ∧
    (∀ w, Calls Try.prog 23 #[.string s, .int .i64 f, .int .i64 t] w (Ret (.string r) w)) :=
  ⟨_, fun w => slice_i s f t w hs hf.1 hf.2 ht.1 ht.2, fun w => ret_same (ref_slice s f t w hs hf.1 hf.2 ht.1 ht.2)⟩
theorem compare_pair (a b : ByteArray) (ha : a.size ≤ maxLen) (hb : b.size ≤ maxLen) :
    (∀ w, Calls Try.prog 31 #[.string a, .string b] w (Ret (.int .i64 (cmpL a.data.toList b.data.toList)) w)) ∧
    (∀ w, Calls Try.prog 32 #[.string a, .string b] w (Ret (.int .i64 (cmpL a.data.toList b.data.toList)) w)) :=
  ⟨fun w => compare_i a b w ha hb, fun w => ret_drewN (ref_compare a b w ha hb)⟩
theorem said_r (m : Int) (w : World) (hm : w.cell? ⟨0, 0, none⟩ = some (.int .i64 m)) : Calls Try.prog 17 #[] w (Ret (.bool true) w) := said_i m w hm
theorem int_bd {a : Int} (h : (Lit.int .i64 a).wf = true) : -9223372036854775808 ≤ a ∧ a ≤ 9223372036854775807 := by
  simpa [Lit.wf, IntKind.min, IntKind.max, IntKind.signed, IntKind.bits] using h
end Go.Proofs.Ytilmhlblilmcfaa
