/- The heap: At, Get, Size, Count. -/
import Derived.Test.YtoancpjlkhijiaaHeap5
namespace Go.Proofs.Ytoancpjlkhijiaa
open Go.RowKit
set_option linter.unusedVariables false
def HeapM.at (H : HeapM) (v : V) (i : Int) : Option V := if 0 ≤ i then (H.items v)[i.toNat]? else none
def HeapM.get (H : HeapM) (v k : V) : Option V := getL (H.pairs v) k
def HeapM.count (H : HeapM) (v : V) : Int := if (H.of v).isSome then cnt (allVals H.objs) v.n else 0
theorem heap_at (w : World) (h : Nat) (v : V) (i : Int) (hi : okI i) {H : HeapM} {ε : Int → Int} {F : List Nat} (hh : HeapIs w h H ε F) :
    Calls Try.prog 40 #[.pointer (some ⟨h, 0, none⟩), v.val, .int .i64 i] w fun e w' => e = .returned (.tuple #[((H.at v i).getD V.zero).val, .bool (H.at v i).isSome]) ∧ Below w.heap.size w w' := by
  cases g : H.of v with
  | none =>
    have HO := Lib.hid (hh.of_none g)
    have HE := Lib.hid (show H.at v i = none by simp [HeapM.at, HeapM.items, g])
    clear hh g
    rw [HE.out]
    simp only [V.val] at HO ⊢
    go_enter Try.func40, Try.ntmps40
    go_wp2_with (go_at_call 45; refine (HO.out _ (by below_tac)).mono ?_; rintro e w1 ⟨rfl, hb1⟩; have hB : Below w.heap.size w w1 := (by below_by hb1); obtain ⟨hc, hf⟩ := bcell hb1; have hz : w.heap.size + 1 < w1.heap.size := (by have := hb1.size; simp at this; omega))
    exact bodyPost_ret (v := .tuple #[.agg #[.int .i64 0, .int .i64 0, .string ⟨#[]⟩], .bool false]) (by simp [results, Try.results40, go_sem, hc]) rfl ⟨rfl, by below_tac⟩
  | some o =>
    obtain ⟨ma, mr, b, d, rv, G, obs, r, O⟩ := hh.open g
    obtain ⟨ra, rcap, hrv⟩ := O.hi.form
    subst hrv
    have HO := Lib.hid O.of
    have HK := Lib.hid O.cells
    have hat : H.at v i = if 0 ≤ i then o.items[i.toNat]? else none := by simp [HeapM.at, HeapM.items, g]
    by_cases h0 : i < 0
    · have HE := Lib.hid (show H.at v i = none by rw [hat, if_neg (by omega)])
      clear hh O hat g
      rw [HE.out]
      simp only [V.val] at HO ⊢
      go_enter Try.func40, Try.ntmps40
      go_wp2_with (go_at_call 45; refine (HO.out _ (by below_tac)).mono ?_; rintro e w1 ⟨rfl, hb1⟩; have hB : Below w.heap.size w w1 := (by below_by hb1); obtain ⟨k0, k1, k2, k3, k4⟩ := HK.out _ hB; obtain ⟨hc, hf⟩ := bcell hb1; have hz : w.heap.size + 1 < w1.heap.size := (by have := hb1.size; simp at this; omega))
      exact bodyPost_ret (v := .tuple #[.agg #[.int .i64 0, .int .i64 0, .string ⟨#[]⟩], .bool false]) (by simp [results, Try.results40, go_sem, hc]) rfl ⟨rfl, by below_tac⟩
    · obtain ⟨n, rfl⟩ : ∃ n : Nat, i = n := ⟨i.toNat, by omega⟩
      by_cases h1 : n < o.items.length
      · obtain ⟨x, hx⟩ : ∃ x, o.items[n]? = some x := ⟨o.items[n], by simp [h1]⟩
        obtain ⟨ba, hba⟩ : ∃ ba, ra = some ⟨ba, 0, none⟩ := by
          rcases O.hi.shape with ⟨h1, h2⟩ | ⟨g, cap, h1, _⟩
          · rw [h2] at hx; simp at hx
          · cases h1; exact ⟨g, rfl⟩
        subst hba
        have hcap : o.items.length ≤ rcap := by rcases O.hi.shape with ⟨h1, h2⟩ | ⟨g', cap, h1, h2, _⟩; cases h1; cases h1; exact h2
        have hmx : rcap ≤ maxLen := by rcases O.hi.shape with ⟨h1, h2⟩ | ⟨g', cap, h1, h2, h3, _⟩; cases h1; cases h1; exact h3
        have j0 := O.hi.cell V.cells_len rfl hx (j := 0) rfl
        rw [Nat.add_zero] at j0
        have j1 := O.hi.cell V.cells_len rfl hx (j := 1) rfl
        have j2 := O.hi.cell V.cells_len rfl hx (j := 2) rfl
        have HJ := Lib.hid (fun W (hb : Below w.heap.size w W) => And.intro (cellBelow j0 hb) (And.intro (cellBelow j1 hb) (cellBelow j2 hb)))
        have HE := Lib.hid (show H.at v n = some x by rw [hat, if_pos (by omega)]; simpa using hx)
        unfold maxLen at hmx
        have hn9 : (n : Int) < o.items.length := by omega
        clear hh O hat g hx j0 j1 j2
        rw [HE.out]
        simp only [V.val] at HO ⊢
        go_enter Try.func40, Try.ntmps40
        go_wp2_with (go_at_call 45; refine (HO.out _ (by below_tac)).mono ?_; rintro e w1 ⟨rfl, hb1⟩; have hB : Below w.heap.size w w1 := (by below_by hb1); obtain ⟨k0, k1, k2, k3, k4⟩ := HK.out _ hB; obtain ⟨j0, j1, j2⟩ := HJ.out _ hB; obtain ⟨hc, hf⟩ := bcell hb1; have hz : w.heap.size + 1 < w1.heap.size := (by have := hb1.size; simp at this; omega))
        exact bodyPost_ret (v := .tuple #[.agg #[.int .i64 x.kind, .int .i64 x.n, .string x.s], .bool true]) (by simp [results, Try.results40, go_sem, hc]) rfl ⟨rfl, by below_tac⟩
      · have HE := Lib.hid (show H.at v n = none by rw [hat, if_pos (by omega)]; simp; omega)
        clear hh O hat g
        rw [HE.out]
        have hn9 : (o.items.length : Int) ≤ n := by omega
        simp only [V.val] at HO ⊢
        go_enter Try.func40, Try.ntmps40
        go_wp2_with (go_at_call 45; refine (HO.out _ (by below_tac)).mono ?_; rintro e w1 ⟨rfl, hb1⟩; have hB : Below w.heap.size w w1 := (by below_by hb1); obtain ⟨k0, k1, k2, k3, k4⟩ := HK.out _ hB; obtain ⟨hc, hf⟩ := bcell hb1; have hz : w.heap.size + 1 < w1.heap.size := (by have := hb1.size; simp at this; omega))
        exact bodyPost_ret (v := .tuple #[.agg #[.int .i64 0, .int .i64 0, .string ⟨#[]⟩], .bool false]) (by simp [results, Try.results40, go_sem, hc]) rfl ⟨rfl, by below_tac⟩
end Go.Proofs.Ytoancpjlkhijiaa
