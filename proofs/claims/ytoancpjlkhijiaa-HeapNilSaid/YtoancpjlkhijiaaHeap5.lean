/- The heap: what is told of an object, by its fields. -/
import Derived.Test.YtoancpjlkhijiaaHeap4
namespace Go.Proofs.Ytoancpjlkhijiaa
open Go.RowKit
set_option linter.unusedVariables false
theorem OpenAt.cells {w : World} {h : Nat} {H : HeapM} {ε : Int → Int} {F : List Nat} {v : V} {o : ObjM} {ma mr b d : Nat} {rv : Value} {G : List Nat} {obs : List (Int × Nat)} {r : List (Int × Int)} (O : OpenAt w h H ε F v o ma mr b d rv G obs r) (W : World) (hW : Below w.heap.size w W) :
    W.cell? ⟨b, 0, none⟩ = some (.int .i64 o.kind) ∧ W.cell? ⟨b, 1, none⟩ = some (.string o.name) ∧ W.cell? ⟨b, 2, none⟩ = some (.int .i64 o.num) ∧ W.cell? ⟨b, 3, none⟩ = some rv ∧ W.cell? ⟨b, 4, none⟩ = some (.pointer (some ⟨d, 0, none⟩)) := by
  have ho := O.ho
  unfold objBlock at ho
  exact ⟨cellBelow (cellAt ho 0 rfl) hW, cellBelow (cellAt ho 1 rfl) hW, cellBelow (cellAt ho 2 rfl) hW, cellBelow (cellAt ho 3 rfl) hW, cellBelow (cellAt ho 4 rfl) hW⟩
theorem boxAt {W w1 : World} {o : Obj} (hb : Below (W.alloc o).heap.size (W.alloc o) w1) : w1.heap[W.heap.size]? = some o := (hb.block _ (by simp)).trans (heapAllocNew W o)
theorem blockBelow {w w1 : World} {b : Nat} {o : Obj} (h : w.heap[b]? = some o) (hb : Below w.heap.size w w1) : w1.heap[b]? = some o := (hb.block _ (blockLt h)).trans h
/-- An api.Value's block. -/
theorem valBlock {w : World} {b : Nat} {x y : Int} {s : ByteArray} (h : w.heap[b]? = some (.cells #[.int .i64 x, .int .i64 y, .string s] 26)) :
    w.cell? ⟨b, 0, none⟩ = some (.int .i64 x) ∧ w.cell? ⟨b, 1, none⟩ = some (.int .i64 y) ∧ w.cell? ⟨b, 2, none⟩ = some (.string s) ∧ w.frozen? ⟨b, 0, none⟩ = false ∧ w.frozen? ⟨b, 1, none⟩ = false ∧ w.frozen? ⟨b, 2, none⟩ = false :=
  ⟨cellAt h 0 rfl, cellAt h 1 rfl, cellAt h 2 rfl, frozenAt h 0, frozenAt h 1, frozenAt h 2⟩
theorem bcell {W w1 : World} (hb : Below W.heap.size W w1) : (∀ b o, b < W.heap.size → w1.cell? ⟨b, o, none⟩ = W.cell? ⟨b, o, none⟩) ∧ (∀ b o, b < W.heap.size → w1.frozen? ⟨b, o, none⟩ = W.frozen? ⟨b, o, none⟩) :=
  ⟨fun b o h => hb.cell (p := ⟨b, o, none⟩) h, fun b o h => hb.frozen (p := ⟨b, o, none⟩) h⟩
/-- What a call laid, behind what the walk laid. -/
theorem size_drew (w : World) : w.drew.heap.size = w.heap.size := rfl
macro "below_by " h:term : tactic => `(tactic| exact Below.next (by below_tac) $h (by (try simp only [World.size_alloc, size_drew, size_drewN, size_setCell]); omega))
theorem heap_name (w : World) (h : Nat) (v : V) {H : HeapM} {ε : Int → Int} {F : List Nat} (hh : HeapIs w h H ε F) :
    Calls Try.prog 42 #[.pointer (some ⟨h, 0, none⟩), v.val] w fun e w' => e = .returned (.string (H.name v)) ∧ Below w.heap.size w w' := by
  cases g : H.of v with
  | none =>
    have HO := Lib.hid (hh.of_none g)
    have HE := Lib.hid (show (.string (H.name v) : Value) = .string ⟨#[]⟩ by simp [HeapM.name, g])
    clear hh g
    rw [HE.out]
    simp only [V.val] at HO ⊢
    go_enter Try.func42, Try.ntmps42
    go_wp2_with (go_at_call 45; refine (HO.out _ (by below_tac)).mono ?_; rintro e w1 ⟨rfl, hb1⟩)
    go_ret
    exact ⟨rfl, by below_by hb1⟩
  | some o =>
    obtain ⟨ma, mr, b, d, rv, G, obs, r, O⟩ := hh.open g
    obtain ⟨ra, rcap, hrv⟩ := O.hi.form
    subst hrv
    have HO := Lib.hid O.of
    have HK := Lib.hid O.cells
    have HE := Lib.hid (show (.string (H.name v) : Value) = .string o.name by simp [HeapM.name, g])
    clear hh g O
    rw [HE.out]
    simp only [V.val] at HO ⊢
    go_enter Try.func42, Try.ntmps42
    go_wp2_with (go_at_call 45; refine (HO.out _ (by below_tac)).mono ?_; rintro e w1 ⟨rfl, hb1⟩; have hB : Below w.heap.size w w1 := (by below_by hb1); obtain ⟨k0, k1, k2, k3, k4⟩ := HK.out _ hB)
    go_ret
    exact ⟨rfl, hB⟩
theorem heap_num (w : World) (h : Nat) (v : V) {H : HeapM} {ε : Int → Int} {F : List Nat} (hh : HeapIs w h H ε F) :
    Calls Try.prog 39 #[.pointer (some ⟨h, 0, none⟩), v.val] w fun e w' => e = .returned (.int .i64 (H.num v)) ∧ Below w.heap.size w w' := by
  cases g : H.of v with
  | none =>
    have HO := Lib.hid (hh.of_none g)
    have HE := Lib.hid (show (.int .i64 (H.num v) : Value) = .int .i64 0 by simp [HeapM.num, g])
    clear hh g
    rw [HE.out]
    simp only [V.val] at HO ⊢
    go_enter Try.func39, Try.ntmps39
    go_wp2_with (go_at_call 45; refine (HO.out _ (by below_tac)).mono ?_; rintro e w1 ⟨rfl, hb1⟩)
    go_ret
    exact ⟨rfl, by below_by hb1⟩
  | some o =>
    obtain ⟨ma, mr, b, d, rv, G, obs, r, O⟩ := hh.open g
    obtain ⟨ra, rcap, hrv⟩ := O.hi.form
    subst hrv
    have HO := Lib.hid O.of
    have HK := Lib.hid O.cells
    have HE := Lib.hid (show (.int .i64 (H.num v) : Value) = .int .i64 o.num by simp [HeapM.num, g])
    clear hh g O
    rw [HE.out]
    simp only [V.val] at HO ⊢
    go_enter Try.func39, Try.ntmps39
    go_wp2_with (go_at_call 45; refine (HO.out _ (by below_tac)).mono ?_; rintro e w1 ⟨rfl, hb1⟩; have hB : Below w.heap.size w w1 := (by below_by hb1); obtain ⟨k0, k1, k2, k3, k4⟩ := HK.out _ hB)
    go_ret
    exact ⟨rfl, hB⟩
theorem heap_len (w : World) (h : Nat) (v : V) {H : HeapM} {ε : Int → Int} {F : List Nat} (hh : HeapIs w h H ε F) :
    Calls Try.prog 43 #[.pointer (some ⟨h, 0, none⟩), v.val] w fun e w' => e = .returned (.int .i64 (H.items v).length) ∧ Below w.heap.size w w' := by
  cases g : H.of v with
  | none =>
    have HO := Lib.hid (hh.of_none g)
    have HE := Lib.hid (show (.int .i64 (H.items v).length : Value) = .int .i64 0 by simp [HeapM.items, g])
    clear hh g
    rw [HE.out]
    simp only [V.val] at HO ⊢
    go_enter Try.func43, Try.ntmps43
    go_wp2_with (go_at_call 45; refine (HO.out _ (by below_tac)).mono ?_; rintro e w1 ⟨rfl, hb1⟩)
    go_ret
    exact ⟨rfl, by below_by hb1⟩
  | some o =>
    obtain ⟨ma, mr, b, d, rv, G, obs, r, O⟩ := hh.open g
    obtain ⟨ra, rcap, hrv⟩ := O.hi.form
    subst hrv
    have HO := Lib.hid O.of
    have HK := Lib.hid O.cells
    have HE := Lib.hid (show (.int .i64 (H.items v).length : Value) = .int .i64 o.items.length by simp [HeapM.items, g])
    clear hh g O
    rw [HE.out]
    simp only [V.val] at HO ⊢
    go_enter Try.func43, Try.ntmps43
    go_wp2_with (go_at_call 45; refine (HO.out _ (by below_tac)).mono ?_; rintro e w1 ⟨rfl, hb1⟩; have hB : Below w.heap.size w w1 := (by below_by hb1); obtain ⟨k0, k1, k2, k3, k4⟩ := HK.out _ hB)
    go_ret
    exact ⟨rfl, hB⟩
end Go.Proofs.Ytoancpjlkhijiaa
