/- The heap: what lies in memory; of; what is told of an object. -/
import Derived.Test.YtellmfimmghidaaGreatHeapM
import Derived.Test.YtellmfimmghidaaGreatDictC
namespace Go.Proofs.YtellmfimmghidaaGreat
set_option linter.unusedSimpArgs false
open Go.RowKit
set_option linter.unusedVariables false
/-- A row of the heap: a number, its object's block, the object, its blocks. -/
structure HRow where
  n : Int
  b : Nat
  o : ObjM
  F : List Nat
def exP (b : Nat) : Value := .pointer (some ⟨b, 0, none⟩)
def ObjIs (w : World) (p : HRow) : Prop :=
  ∃ (rv : Value) (d : Nat) (G : List Nat), w.heap[p.b]? = some (.cells #[.int .i64 p.o.kind, .string p.o.name, .int .i64 p.o.num, rv, .pointer (some ⟨d, 0, none⟩)] 95) ∧ slIs w 29 3 V.cells rv p.o.items ∧ DictIs w d p.o.pairs G ∧
    p.F = p.b :: rv.ownBlock.toList ++ G ∧ p.F.Nodup
/-- The counts are what is held, and ε besides. -/
def CountsAre (H : HeapM) (ε : Int → Int) (r : List (Int × Int)) : Prop := ∀ n, cntL r n = wrap64 (cnt (allVals H.objs) n + ε n)
def HeapIs (w : World) (h : Nat) (H : HeapM) (ε : Int → Int) (F : List Nat) : Prop :=
  ∃ (ma mr : Nat) (rows : List HRow) (r : List (Int × Int)), w.heap[h]? = some (.cells #[.map (some ma), .map (some mr), .int .i64 H.last] 83) ∧
    mapIs w Tryz.prog 2 ekI exP ma (rows.map fun p => (p.n, p.b)) ∧ mapIs w Tryz.prog 2 ekI exI mr r ∧ (∀ p ∈ rows, ObjIs w p) ∧ H.objs = rows.map (fun p => (p.n, p.o)) ∧
    F = h :: ma :: mr :: rows.flatMap (·.F) ∧ F.Nodup ∧ CountsAre H ε r
theorem ObjIs.of_block {w w' : World} {p : HRow} (h : ObjIs w p) (hb : ∀ b ∈ p.F, w'.heap[b]? = w.heap[b]?) : ObjIs w' p := by
  obtain ⟨rv, d, G, h1, h2, h3, h4, h5⟩ := h
  exact ⟨rv, d, G, (hb _ (by simp [h4])).trans h1, h2.of_block (fun g hg => hb g (by simp [h4, hg])), h3.of_block (fun b hb' => hb b (by simp [h4, hb'])), h4, h5⟩
theorem ObjIs.lt {w : World} {p : HRow} (h : ObjIs w p) : ∀ b ∈ p.F, b < w.heap.size := by
  obtain ⟨rv, d, G, h1, h2, h3, h4, h5⟩ := h
  intro b hb
  rw [h4] at hb
  simp only [List.cons_append, List.mem_cons, List.mem_append, Option.mem_toList] at hb
  rcases hb with rfl | hb | hb
  · exact blockLt h1
  · exact h2.lt b hb
  · exact h3.lt b hb
theorem HeapIs.lt {w : World} {h : Nat} {H : HeapM} {ε : Int → Int} {F : List Nat} (hh : HeapIs w h H ε F) : ∀ b ∈ F, b < w.heap.size := by
  obtain ⟨ma, mr, rows, r, h1, h2, h3, h4, h5, h6, h7, h8⟩ := hh
  intro b hb
  rw [h6] at hb
  simp only [List.mem_cons, List.mem_flatMap] at hb
  rcases hb with rfl | rfl | rfl | ⟨p, hp, hb⟩
  · exact blockLt h1
  · exact h2.lt
  · exact h3.lt
  · exact (h4 p hp).lt b hb
theorem HeapIs.of_block {w w' : World} {h : Nat} {H : HeapM} {ε : Int → Int} {F : List Nat} (hh : HeapIs w h H ε F) (hb : ∀ b ∈ F, w'.heap[b]? = w.heap[b]?) : HeapIs w' h H ε F := by
  obtain ⟨ma, mr, rows, r, h1, h2, h3, h4, h5, h6, h7, h8⟩ := hh
  exact ⟨ma, mr, rows, r, (hb _ (by simp [h6])).trans h1, h2.of_block (hb _ (by simp [h6])), h3.of_block (hb _ (by simp [h6])), fun p hp => (h4 p hp).of_block (fun b hb' => hb b (by rw [h6]; simp only [List.mem_cons, List.mem_flatMap]; exact .inr (.inr (.inr ⟨p, hp, hb'⟩)))), h5, h6, h7, h8⟩
theorem HeapIs.below {w w' : World} {h : Nat} {H : HeapM} {ε : Int → Int} {F : List Nat} (hh : HeapIs w h H ε F) (ho : Below w.heap.size w w') : HeapIs w' h H ε F :=
  hh.of_block fun b hb => ho.block b (hh.lt b hb)
theorem HeapIs.outside {w w' : World} {h : Nat} {H : HeapM} {ε : Int → Int} {F G : List Nat} (hh : HeapIs w h H ε F) (ho : Outside G w w') (hFG : ∀ b ∈ F, b ∉ G) : HeapIs w' h H ε F :=
  hh.of_block fun b hb => ho.block b (hh.lt b hb) (hFG b hb)
theorem Below.next {B : Nat} {a w w1 : World} (h : Below B a w) (k : Below w.heap.size w w1) (hB : B ≤ w.heap.size) : Below B a w1 := h.trans (k.mono hB)
def ofB (obs : List (Int × Nat)) (v : V) : Option Nat := if v.kind = 4 then getL obs v.n else none
theorem getL_map2 {K X Y : Type} [DecidableEq K] {R : Type} (f : R → K) (g : R → X) (g' : R → Y) (rows : List R) (k : K) :
    (getL (rows.map fun p => (f p, g p)) k = none ∧ getL (rows.map fun p => (f p, g' p)) k = none) ∨ ∃ p ∈ rows, f p = k ∧ getL (rows.map fun p => (f p, g p)) k = some (g p) ∧ getL (rows.map fun p => (f p, g' p)) k = some (g' p) := by
  induction rows with
  | nil => exact .inl ⟨rfl, rfl⟩
  | cons p r ih =>
    by_cases e : f p = k
    · exact .inr ⟨p, by simp, e, by simp [getL, e], by simp [getL, e]⟩
    · have e1 : ∀ {Z : Type} (q : R → Z), getL ((p :: r).map fun p => (f p, q p)) k = getL (r.map fun p => (f p, q p)) k := fun q => by simp [getL, e]
      rw [e1, e1]
      rcases ih with h | ⟨q, hq, h⟩
      · exact .inl h
      · exact .inr ⟨q, by simp [hq], h⟩
/-- A value's object, in both. -/
theorem ofB_cases {H : HeapM} {rows : List HRow} (h5 : H.objs = rows.map (fun p => (p.n, p.o))) (v : V) :
    (ofB (rows.map fun p => (p.n, p.b)) v = none ∧ H.of v = none) ∨ ∃ p ∈ rows, v.kind = 4 ∧ p.n = v.n ∧ ofB (rows.map fun p => (p.n, p.b)) v = some p.b ∧ H.of v = some p.o := by
  unfold ofB HeapM.of
  rw [h5]
  by_cases e : v.kind = 4
  · rw [if_pos e, if_pos e]
    rcases getL_map2 HRow.n HRow.b HRow.o rows v.n with h | ⟨p, hp, h1, h2, h3⟩
    · exact .inl h
    · exact .inr ⟨p, hp, e, h1, h2, h3⟩
  · rw [if_neg e, if_neg e]; exact .inl ⟨rfl, rfl⟩
theorem heap_of (w : World) (h : Nat) (v : V) {ma : Nat} {obs : List (Int × Nat)} (c0 : w.cell? ⟨h, 0, none⟩ = some (.map (some ma))) (hm : mapIs w Tryz.prog 2 ekI exP ma obs) (r : Option Nat) (hr : ofB obs v = r) :
    Calls Tryz.prog 55 #[.pointer (some ⟨h, 0, none⟩), v.val] w fun e w' => e = .returned (.pointer (r.map fun b => ⟨b, 0, none⟩)) ∧ Below w.heap.size w w' := by
  have hlt := World.block_lt_of_cell? w _ c0
  obtain ⟨kl, hkl⟩ := keyOfI v.hn
  have hz : ∀ W, (zeroValue 91).run Tryz.prog W = .ok (.pointer none) W := fun W => Tryz.zeroValue91 W
  have hlk : ∀ o n, (Instr.lookup 80 (.map (some ma)) (.int .i64 v.n) false).run Tryz.prog ((w.alloc o).drewN n) = .ok (.pointer ((getL obs v.n).map fun b => ⟨b, 0, none⟩)) ((w.alloc o).drewN n) := fun o n => by
    have := ((hm.alloc o).drewN n).look ekI_inj keyI Tryz.underlying80 (hz _) hkl false
    cases hg : getL obs v.n with
    | none => rw [hg] at this; exact this
    | some x => rw [hg] at this; exact this
  have HR := Lib.hid hr
  clear hr hm hz hkl
  simp only [V.val]
  go_enter Tryz.func55, Tryz.ntmps55
  by_cases hk : v.kind = 4
  · have hk' : (v.kind != 4) = false := by simp [hk]
    clear hk
    go_wp2
    go_quiet (fail)
    go_wp2
    go_ret
    have hk : v.kind = 4 := by simpa using hk'
    have := HR.out
    rw [ofB, if_pos hk] at this
    rw [this]
    exact ⟨rfl, by (repeat (first | exact Below.refl _ _ | assumption | refine Below.drewN ?_ _ | refine Below.drew ?_ | refine Below.alloc ?_ (by (try simp only [World.size_alloc, size_drewN, size_setCell]); omega) _ | refine Below.setCell ?_ (by (try simp only [World.size_alloc, size_drewN, size_setCell]); omega) _))⟩
  · have hk' : (v.kind != 4) = true := by simpa using hk
    clear hk
    go_wp2
    go_ret
    have hk : ¬ v.kind = 4 := by simpa using hk'
    have := HR.out
    rw [ofB, if_neg hk] at this
    rw [← this]
    exact ⟨rfl, by (repeat (first | exact Below.refl _ _ | assumption | refine Below.drewN ?_ _ | refine Below.drew ?_ | refine Below.alloc ?_ (by (try simp only [World.size_alloc, size_drewN, size_setCell]); omega) _ | refine Below.setCell ?_ (by (try simp only [World.size_alloc, size_drewN, size_setCell]); omega) _))⟩
end Go.Proofs.YtellmfimmghidaaGreat
