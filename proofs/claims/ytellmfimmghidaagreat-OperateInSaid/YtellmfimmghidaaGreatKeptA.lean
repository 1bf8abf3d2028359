import Derived.Test.YtellmfimmghidaaGreatHeapF
/- The document's example, plainly. -/
namespace Go.Proofs.YtellmfimmghidaaGreat
set_option linter.unusedSimpArgs false
open Go.RowKit
set_option linter.unusedVariables false
namespace K
def a : V := V.ref 1 (by decide)
def b : V := V.ref 2 (by decide)
def c : V := V.ref 3 (by decide)
def x : V := ⟨3, 0, ⟨#[120]⟩, by decide, by decide, by decide⟩
def oA : ObjM := ⟨1, ⟨#[]⟩, 0, [], [], by decide, by decide, by decide⟩
def oB : ObjM := ⟨1, ⟨#[]⟩, 0, [a, a], [], by decide, by decide, by decide⟩
def oC : ObjM := ⟨6, ⟨#[99]⟩, 7, [], [], by decide, by decide, by decide⟩
def oD : ObjM := ⟨6, ⟨#[99]⟩, 7, [], [(x, c)], by decide, by decide, by decide⟩
def H0 : HeapM := ⟨[], 0⟩
def H1 : HeapM := ⟨[(1, oA)], 1⟩
def H2 : HeapM := ⟨[(1, oA), (2, oB)], 2⟩
def H3 : HeapM := ⟨[(1, oA), (2, oB), (3, oC)], 3⟩
def H4 : HeapM := ⟨[(1, oA), (2, oB), (3, oD)], 3⟩
def H6 : HeapM := ⟨[(3, oD)], 3⟩
def H7 : HeapM := ⟨[], 3⟩
theorem e1 : H0.add oA = H1 := rfl
theorem e2 : H1.add oB = H2 := rfl
theorem e3 : H2.add oC = H3 := rfl
theorem g3 : getL H3.objs 3 = some oC := rfl
theorem key_x : x.isKey = true := by decide +kernel
theorem p1 : putOk ([] : List (V × V)) x = true := by simp [putOk, getL, key_x]
theorem p2 : H3.canPut c x = true := by
  have : H3.of c = some oC := rfl
  simp only [HeapM.canPut, this]; exact p1
theorem e4 : H3.put c x c = H4 := by
  have h1 : H3.of c = some oC := rfl
  have h2 : putOk oC.pairs x = true := p1
  simp only [HeapM.put, h1, h2, if_true]
  rfl
theorem n1 : H4.count a = 2 := by decide +kernel
theorem n2 : H4.count c = 1 := by decide +kernel
theorem r1 : H4.refNs b = [1, 1] := by rfl
theorem m1 : H6.name c = ⟨#[99]⟩ := rfl
theorem f1 : H6.freed [3, 3, 9] = 1 := by rfl
theorem f2 : H6.freeAll [3, 3, 9] = H7 := by rfl
theorem k1 : H7.kind c = 0 := rfl
theorem l1 : H7.live 0 = 0 := rfl
theorem cases4 {n : Int} {o : ObjM} (h : getL H4.objs n = some o) : (n = 1 ∧ o = oA) ∨ (n = 2 ∧ o = oB) ∨ (n = 3 ∧ o = oD) := by
  have := getL_mem h
  simp [H4] at this
  exact this
theorem s1 : H4.sweep [b] = H4 := by
  have hs : Sup H4 [b] (fun n => n = 1 ∨ n = 2 ∨ n = 3) := by
    intro n hn
    rcases hn with rfl | rfl | rfl
    · exact ⟨rfl, .inr ⟨2, oB, by simp, rfl, by decide +kernel⟩⟩
    · exact ⟨rfl, .inl (by decide +kernel)⟩
    · exact ⟨rfl, .inr ⟨3, oD, by simp, rfl, by decide +kernel⟩⟩
  have k1 : Kept H4 [b] 1 := ⟨_, hs, by simp⟩
  have k2 : Kept H4 [b] 2 := ⟨_, hs, by simp⟩
  have k3 : Kept H4 [b] 3 := ⟨_, hs, by simp⟩
  have : H4.objs.filter (fun p => @decide (Kept H4 [b] p.1) (Classical.propDecidable _)) = H4.objs := by
    refine List.filter_eq_self.2 fun p hp => ?_
    simp [H4] at hp
    rcases hp with rfl | rfl | rfl
    · simpa using k1
    · simpa using k2
    · simpa using k3
  unfold HeapM.sweep
  rw [this]
theorem s2 : H4.sweep [] = H6 := by
  have k3 : Kept H4 [] 3 := ⟨fun n => n = 3, fun n hn => by subst hn; exact ⟨rfl, .inr ⟨3, oD, rfl, rfl, by decide +kernel⟩⟩, rfl⟩
  have h2 : ∀ S, Sup H4 [] S → ¬ S 2 := by
    intro S hS h
    rcases (hS 2 h).2 with h1 | ⟨m, o, hm, ho, hc⟩
    · simp [cnt_nil] at h1
    · rcases cases4 ho with ⟨rfl, rfl⟩ | ⟨rfl, rfl⟩ | ⟨rfl, rfl⟩
      · have : cnt oA.vals 2 = 0 := by decide +kernel
        omega
      · have : cnt oB.vals 2 = 0 := by decide +kernel
        omega
      · have : cnt oD.vals 2 = 0 := by decide +kernel
        omega
  have k2 : ¬ Kept H4 [] 2 := fun ⟨S, hS, h⟩ => h2 S hS h
  have k1 : ¬ Kept H4 [] 1 := fun ⟨S, hS, h⟩ => by
    rcases (hS 1 h).2 with h1 | ⟨m, o, hm, ho, hc⟩
    · simp [cnt_nil] at h1
    · rcases cases4 ho with ⟨rfl, rfl⟩ | ⟨rfl, rfl⟩ | ⟨rfl, rfl⟩
      · have : cnt oA.vals 1 = 0 := by decide +kernel
        omega
      · exact h2 S hS hm
      · have : cnt oD.vals 1 = 0 := by decide +kernel
        omega
  have : H4.objs.filter (fun p => @decide (Kept H4 [] p.1) (Classical.propDecidable _)) = [(3, oD)] := by
    simp [H4, List.filter_cons] at k1 k2 k3 ⊢
    simp [k1, k2, k3]
  unfold HeapM.sweep
  rw [this]; rfl
theorem g0 : H0.Good 0 := good_empty
theorem ok4 : H4.Ok := ⟨by decide, by decide, by decide⟩
end K
end Go.Proofs.YtellmfimmghidaaGreat
/- The document's example: the walk. -/
namespace Go.Proofs.YtellmfimmghidaaGreat
set_option linter.unusedSimpArgs false
open Go.RowKit
set_option linter.unusedVariables false
theorem heap_setCell3 {w : World} {q : Nat} {x y x' y' : Int} {s s' : ByteArray} (h : w.heap[q]? = some (.cells #[.int .i64 x, .int .i64 y, .string s] 29)) :
    (((w.setCell ⟨q, 0, none⟩ (.int .i64 x')).setCell ⟨q, 1, none⟩ (.int .i64 y')).setCell ⟨q, 2, none⟩ (.string s')).heap[q]? = some (.cells #[.int .i64 x', .int .i64 y', .string s'] 29) :=
  heap_setCell_same (heap_setCell_same (heap_setCell_same h 0 _) 1 _) 2 _
theorem outside3 (w : World) (q : Nat) (u v x : Value) : Outside [q] w (((w.setCell ⟨q, 0, none⟩ u).setCell ⟨q, 1, none⟩ v).setCell ⟨q, 2, none⟩ x) :=
  (((Outside.refl _ _).setCell (.inl (by simp)) _).setCell (.inl (by simp)) _).setCell (.inl (by simp)) _
/-- The result's box is written; nobody needs it any more. -/
theorem HAt.result {w W0 W W' : World} {h : Nat} {H : HeapM} {L : List (Nat × Obj)} {o : Obj} (A : HAt w h H ((W0.heap.size, o) :: L) W) (hL : ∀ p ∈ L, p.1 < W0.heap.size) (hw : w.heap.size ≤ W0.heap.size) (ho : Outside [W0.heap.size] W W') : HAt w h H L W' :=
  A.beside ho (fun q hq => by simp at hq; subst hq; exact .inl ⟨hw, o, by simp⟩) (fun p hp => .inl ⟨List.mem_cons_of_mem _ hp, by have := hL p hp; simp; omega⟩)
theorem HAt.lt {w W : World} {h : Nat} {H : HeapM} {L : List (Nat × Obj)} (A : HAt w h H L W) : ∀ p ∈ L, p.1 < W.heap.size := fun p hp => blockLt (A.box hp)
def refCell (n : Int) : Value := .agg #[.int .i64 4, .int .i64 n, .string ⟨#[]⟩]
theorem seesNil (w : World) : SeesV w (.slice none 0 0) [] := ⟨none, 0, rfl, by simp, by simp, .inl rfl⟩
theorem SeesN.of_slIs {w : World} {sv : Value} {l : List Int} (h : slIs w 2 1 intCell sv l) : SeesN w sv l := by
  rcases h.shape with ⟨h1, h2⟩ | ⟨g, c, h1, h2, h3, h4⟩
  · subst h1; subst h2; exact ⟨none, 0, rfl, by simp, by simp, .inl rfl⟩
  · subst h1
    refine ⟨_, c, rfl, h2, h3, .inr ⟨g, 0, rfl, fun i n hi => ?_⟩⟩
    have := h.cell intCell_len rfl hi (j := 0) rfl
    simpa using this
def SameRel (w : World) (l m : List Int) (k : Nat) (wr : World) : Prop := l.take k = m.take k ∧ ∃ n, wr = w.drewN n
theorem SameRel.later {w wr : World} {l m : List Int} {k : Nat} (h : SameRel w l m k wr) (n : Nat) : SameRel w l m k (wr.drewN n) := by
  obtain ⟨h1, j, rfl⟩ := h; exact ⟨h1, _, World.drewN_drewN w j n⟩
end Go.Proofs.YtellmfimmghidaaGreat
/- The document's example is as it says. -/
namespace Go.Proofs.YtellmfimmghidaaGreat
set_option linter.unusedSimpArgs false
open Go.RowKit
set_option linter.unusedVariables false
namespace K
theorem good1 : H1.Good 10 := ⟨⟨by decide, by decide, by decide⟩, by decide +kernel⟩
theorem good2 : H2.Good 10 := ⟨⟨by decide, by decide, by decide⟩, by decide +kernel⟩
theorem good3 : H3.Good 10 := ⟨⟨by decide, by decide, by decide⟩, by decide +kernel⟩
theorem good4 : H4.Good 10 := ⟨⟨by decide, by decide, by decide⟩, by decide +kernel⟩
theorem good6 : H6.Good 10 := ⟨⟨by decide, by decide, by decide⟩, by decide +kernel⟩
theorem good7 : H7.Good 10 := ⟨⟨by decide, by decide, by decide⟩, by decide +kernel⟩
end K
theorem seesTwo {w : World} {b : Nat} {x y : V} (h : w.heap[b]? = some (.cells #[.int .i64 x.kind, .int .i64 x.n, .string x.s, .int .i64 y.kind, .int .i64 y.n, .string y.s] 29)) : SeesV w (.slice (some ⟨b, 0, none⟩) 2 2) [x, y] := by
  refine ⟨_, 2, rfl, by simp, by decide, .inr ⟨b, 0, rfl, fun i v hv => ?_⟩⟩
  match i, hv with
  | 0, hv => simp at hv; subst hv; exact ⟨cellAt h 0 rfl, cellAt h 1 rfl, cellAt h 2 rfl⟩
  | 1, hv => simp at hv; subst hv; exact ⟨cellAt h 3 rfl, cellAt h 4 rfl, cellAt h 5 rfl⟩
  | i + 2, hv => simp at hv
theorem seesThree {w : World} {b : Nat} {x y z : Int} (h : w.heap[b]? = some (.cells #[.int .i64 x, .int .i64 y, .int .i64 z] 2)) : SeesN w (.slice (some ⟨b, 0, none⟩) 3 3) [x, y, z] := by
  refine ⟨_, 3, rfl, by simp, by decide, .inr ⟨b, 0, rfl, fun i v hv => ?_⟩⟩
  match i, hv with
  | 0, hv => simp at hv; subst hv; exact cellAt h 0 rfl
  | 1, hv => simp at hv; subst hv; exact cellAt h 1 rfl
  | 2, hv => simp at hv; subst hv; exact cellAt h 2 rfl
  | i + 3, hv => simp at hv
theorem seesTwoN {w : World} {b : Nat} {x y : Int} (h : w.heap[b]? = some (.cells #[.int .i64 x, .int .i64 y] 2)) : SeesN w (.slice (some ⟨b, 0, none⟩) 2 2) [x, y] := by
  refine ⟨_, 2, rfl, by simp, by decide, .inr ⟨b, 0, rfl, fun i v hv => ?_⟩⟩
  match i, hv with
  | 0, hv => simp at hv; subst hv; exact cellAt h 0 rfl
  | 1, hv => simp at hv; subst hv; exact cellAt h 1 rfl
  | i + 2, hv => simp at hv
theorem field_n (W : World) (a b : Int) (s : ByteArray) : (Instr.field 29 (.agg #[.int .i64 a, .int .i64 b, .string s]) 1).run Tryz.prog W = .ok (.int .i64 b) W := by kernel_rfl
theorem field_k (W : World) (a b : Int) (s : ByteArray) : (Instr.field 29 (.agg #[.int .i64 a, .int .i64 b, .string s]) 0).run Tryz.prog W = .ok (.int .i64 a) W := by kernel_rfl
theorem field_s (W : World) (a b : Int) (s : ByteArray) : (Instr.field 29 (.agg #[.int .i64 a, .int .i64 b, .string s]) 2).run Tryz.prog W = .ok (.string s) W := by kernel_rfl
end Go.Proofs.YtellmfimmghidaaGreat
