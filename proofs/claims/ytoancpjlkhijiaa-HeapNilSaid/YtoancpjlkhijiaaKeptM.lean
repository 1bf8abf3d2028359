/- The document's example, plainly. -/
import Derived.Test.YtoancpjlkhijiaaHeap24
namespace Go.Proofs.Ytoancpjlkhijiaa
open Go.RowKit
set_option linter.unusedVariables false
namespace K
def a : V := V.ref 1 (by decide)
def b : V := V.ref 2 (by decide)
def c : V := V.ref 3 (by decide)
def x : V := ⟨3, 0, ⟨#[120]⟩, by decide, by decide, by decide⟩
def oA : ObjM := ⟨1, ⟨#[]⟩, 0, [], [], by decide, by decide, by decide⟩
def oB : ObjM := ⟨1, ⟨#[]⟩, 0, [a, a], [], by decide, by decide, by decide⟩
def oC : ObjM := ⟨6, ⟨#[99]⟩, 7, [], [], by decide, by decide, by decide⟩
def oD : ObjM := ⟨6, ⟨#[99]⟩, 7, [], [(x, c)], by decide, by decide, by decide⟩
def H0 : HeapM := ⟨[], 0⟩
def H1 : HeapM := ⟨[(1, oA)], 1⟩
def H2 : HeapM := ⟨[(1, oA), (2, oB)], 2⟩
def H3 : HeapM := ⟨[(1, oA), (2, oB), (3, oC)], 3⟩
def H4 : HeapM := ⟨[(1, oA), (2, oB), (3, oD)], 3⟩
def H6 : HeapM := ⟨[(3, oD)], 3⟩
def H7 : HeapM := ⟨[], 3⟩
theorem e1 : H0.add oA = H1 := rfl
theorem e2 : H1.add oB = H2 := rfl
theorem e3 : H2.add oC = H3 := rfl
theorem g3 : getL H3.objs 3 = some oC := rfl
theorem key_x : x.isKey = true := by decide +kernel
theorem p1 : putOk ([] : List (V × V)) x = true := by simp [putOk, getL, key_x]
theorem p2 : H3.canPut c x = true := by
  have : H3.of c = some oC := rfl
  simp only [HeapM.canPut, this]; exact p1
theorem e4 : H3.put c x c = H4 := by
  have h1 : H3.of c = some oC := rfl
  have h2 : putOk oC.pairs x = true := p1
  simp only [HeapM.put, h1, h2, if_true]
  rfl
theorem n1 : H4.count a = 2 := by decide +kernel
theorem n2 : H4.count c = 1 := by decide +kernel
theorem r1 : H4.refNs b = [1, 1] := by rfl
theorem m1 : H6.name c = ⟨#[99]⟩ := rfl
theorem f1 : H6.freed [3, 3, 9] = 1 := by rfl
theorem f2 : H6.freeAll [3, 3, 9] = H7 := by rfl
theorem k1 : H7.kind c = 0 := rfl
theorem l1 : H7.live 0 = 0 := rfl
theorem cases4 {n : Int} {o : ObjM} (h : getL H4.objs n = some o) : (n = 1 ∧ o = oA) ∨ (n = 2 ∧ o = oB) ∨ (n = 3 ∧ o = oD) := by
  have := getL_mem h
  simp [H4] at this
  exact this
theorem s1 : H4.sweep [b] = H4 := by
  have hs : Sup H4 [b] (fun n => n = 1 ∨ n = 2 ∨ n = 3) := by
    intro n hn
    rcases hn with rfl | rfl | rfl
    · exact ⟨rfl, .inr ⟨2, oB, by simp, rfl, by decide +kernel⟩⟩
    · exact ⟨rfl, .inl (by decide +kernel)⟩
    · exact ⟨rfl, .inr ⟨3, oD, by simp, rfl, by decide +kernel⟩⟩
  have k1 : Kept H4 [b] 1 := ⟨_, hs, by simp⟩
  have k2 : Kept H4 [b] 2 := ⟨_, hs, by simp⟩
  have k3 : Kept H4 [b] 3 := ⟨_, hs, by simp⟩
  have : H4.objs.filter (fun p => @decide (Kept H4 [b] p.1) (Classical.propDecidable _)) = H4.objs := by
    refine List.filter_eq_self.2 fun p hp => ?_
    simp [H4] at hp
    rcases hp with rfl | rfl | rfl
    · simpa using k1
    · simpa using k2
    · simpa using k3
  unfold HeapM.sweep
  rw [this]
theorem s2 : H4.sweep [] = H6 := by
  have k3 : Kept H4 [] 3 := ⟨fun n => n = 3, fun n hn => by subst hn; exact ⟨rfl, .inr ⟨3, oD, rfl, rfl, by decide +kernel⟩⟩, rfl⟩
  have h2 : ∀ S, Sup H4 [] S → ¬ S 2 := by
    intro S hS h
    rcases (hS 2 h).2 with h1 | ⟨m, o, hm, ho, hc⟩
    · simp [cnt_nil] at h1
    · rcases cases4 ho with ⟨rfl, rfl⟩ | ⟨rfl, rfl⟩ | ⟨rfl, rfl⟩
      · have : cnt oA.vals 2 = 0 := by decide +kernel
        omega
      · have : cnt oB.vals 2 = 0 := by decide +kernel
        omega
      · have : cnt oD.vals 2 = 0 := by decide +kernel
        omega
  have k2 : ¬ Kept H4 [] 2 := fun ⟨S, hS, h⟩ => h2 S hS h
  have k1 : ¬ Kept H4 [] 1 := fun ⟨S, hS, h⟩ => by
    rcases (hS 1 h).2 with h1 | ⟨m, o, hm, ho, hc⟩
    · simp [cnt_nil] at h1
    · rcases cases4 ho with ⟨rfl, rfl⟩ | ⟨rfl, rfl⟩ | ⟨rfl, rfl⟩
      · have : cnt oA.vals 1 = 0 := by decide +kernel
        omega
      · exact h2 S hS hm
      · have : cnt oD.vals 1 = 0 := by decide +kernel
        omega
  have : H4.objs.filter (fun p => @decide (Kept H4 [] p.1) (Classical.propDecidable _)) = [(3, oD)] := by
    simp [H4, List.filter_cons] at k1 k2 k3 ⊢
    simp [k1, k2, k3]
  unfold HeapM.sweep
  rw [this]; rfl
theorem g0 : H0.Good 0 := good_empty
theorem ok4 : H4.Ok := ⟨by decide, by decide, by decide⟩
end K
end Go.Proofs.Ytoancpjlkhijiaa
