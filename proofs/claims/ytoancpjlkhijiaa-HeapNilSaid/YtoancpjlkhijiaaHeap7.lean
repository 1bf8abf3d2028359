/- The heap: Get. -/
import Derived.Test.YtoancpjlkhijiaaHeap6
import Derived.StillTailTactics
import Derived.Deep.RegionWith
namespace Go.Proofs.Ytoancpjlkhijiaa
open Go.RowKit
set_option linter.unusedVariables false
theorem heap_get (w : World) (h : Nat) (v k : V) {H : HeapM} {ε : Int → Int} {F : List Nat} (hh : HeapIs w h H ε F) :
    Calls Try.prog 41 #[.pointer (some ⟨h, 0, none⟩), v.val, k.val] w fun e w' => e = .returned (.tuple #[((H.get v k).getD V.zero).val, .bool (H.get v k).isSome]) ∧ Below w.heap.size w w' := by
  cases g : H.of v with
  | none =>
    have HO := Lib.hid (hh.of_none g)
    have HE := Lib.hid (show H.get v k = none by simp [HeapM.get, HeapM.pairs, g, getL])
    clear hh g
    rw [HE.out]
    simp only [V.val] at HO ⊢
    go_enter Try.func41, Try.ntmps41
    go_wp2_with (go_at_call 45; refine (HO.out _ (by below_tac)).mono ?_; rintro e w1 ⟨rfl, hb1⟩; have hB : Below w.heap.size w w1 := (by below_by hb1); obtain ⟨hc, hf⟩ := bcell hb1; have hz : w.heap.size + 2 < w1.heap.size := (by have := hb1.size; simp at this; omega))
    exact bodyPost_ret (v := .tuple #[.agg #[.int .i64 0, .int .i64 0, .string ⟨#[]⟩], .bool false]) (by simp [results, Try.results41, go_sem, hc]) rfl ⟨rfl, by below_tac⟩
  | some o =>
    obtain ⟨ma, mr, b, d, rv, G, obs, r, O⟩ := hh.open g
    have HO := Lib.hid O.of
    have HK := Lib.hid O.cells
    have HE := Lib.hid (show H.get v k = getL o.pairs k by simp [HeapM.get, HeapM.pairs, g])
    have HD := Lib.hid (fun W (hW : Below w.heap.size w W) => dict_get W d o.pairs G k (O.hdict.below hW))
    have blt := blockLt O.ho
    clear hh O g
    rw [HE.out]
    have HV : ∃ y : V, ((getL o.pairs k).getD V.zero) = y := ⟨_, rfl⟩
    obtain ⟨y, hy⟩ := HV
    rw [hy]
    simp only [hy] at HD
    clear hy
    generalize (getL o.pairs k).isSome = t at HD ⊢
    simp only [V.val] at HO HD ⊢
    go_enter Try.func41, Try.ntmps41
    go_wp2_with (go_at_call 45; refine (HO.out _ (by below_tac)).mono ?_; rintro e w1 ⟨rfl, hb1⟩; have hB : Below w.heap.size w w1 := (by below_by hb1); obtain ⟨k0, k1, k2, k3, k4⟩ := HK.out _ hB; obtain ⟨hc, hf⟩ := bcell hb1; have hz : w.heap.size + 2 < w1.heap.size := (by have := hb1.size; simp at this; omega))
    have hbox : w1.heap[w.heap.size + 2]? = some (.cells #[.int .i64 0, .int .i64 0, .string ⟨#[]⟩] 26) := by have := boxAt hb1; simpa using this
    go_region_with (go_at_call 74; (refine (HD.out _ (by below_tac)).mono ?_; rintro e w2 ⟨rfl, hb2⟩; have hB2 : Below w.heap.size w w2 := (by below_by hb2); obtain ⟨q0, q1, q2, q3, q4, q5⟩ := valBlock (blockBelow (show w1.drew.heap[w.heap.size + 2]? = _ from hbox) hb2)))
    all_goals go_wp2
    all_goals exact bodyPost_ret (v := .tuple #[.agg #[.int .i64 y.kind, .int .i64 y.n, .string y.s], .bool t]) (by simp [results, Try.results41, go_sem, q0, q1, q2]) rfl ⟨rfl, by below_tac⟩
end Go.Proofs.Ytoancpjlkhijiaa
