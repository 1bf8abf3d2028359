/- ch 13's example, plainly. -/
import Derived.Test.YtjinabglachglaaColl2
namespace Go.Proofs.Ytjinabglachglaa
set_option linter.unusedSimpArgs false
open Go.RowKit
set_option linter.unusedVariables false
theorem HeapM.R.live {H : HeapM} {E : List V} {n : Int} (h : H.R E n) : (getL H.objs n).isSome = true := by
  cases h with
  | seed h1 _ => exact h1
  | step _ h2 => exact H.refsOf_live _ _ h2
theorem HeapM.R_nil {H : HeapM} {n : Int} (h : H.R [] n) : False := by
  induction h with
  | seed _ h2 => simp [cnt_nil] at h2
  | step _ _ ih => exact ih
namespace KC
def a : V := V.ref 1 (by decide)
def b : V := V.ref 2 (by decide)
def c : V := V.ref 3 (by decide)
def oA : ObjM := ⟨1, ⟨#[]⟩, 0, [], [], by decide, by decide, by decide⟩
def oB : ObjM := ⟨6, ⟨#[]⟩, 0, [a], [], by decide, by decide, by decide⟩
def oA' : ObjM := ⟨1, ⟨#[]⟩, 0, [b], [], by decide, by decide, by decide⟩
def oB' : ObjM := ⟨6, ⟨#[]⟩, 0, [a, c], [], by decide, by decide, by decide⟩
def H0 : HeapM := ⟨[], 0⟩
def H1 : HeapM := ⟨[(1, oA)], 1⟩
def H2 : HeapM := ⟨[(1, oA), (2, oB)], 2⟩
def H3 : HeapM := ⟨[(1, oA), (2, oB), (3, oA)], 3⟩
def H4 : HeapM := ⟨[(1, oA'), (2, oB), (3, oA)], 3⟩
def H5 : HeapM := ⟨[(1, oA'), (2, oB'), (3, oA)], 3⟩
def H6 : HeapM := ⟨[(3, oA)], 3⟩
theorem e1 : H0.add oA = H1 := rfl
theorem e2 : H1.add oB = H2 := rfl
theorem e3 : H2.add oA = H3 := rfl
theorem c4 : H3.canReplace a 0 0 = true := by decide +kernel
theorem e4 : H3.replace a 0 0 [b] = H4 := by rfl
theorem c5 : H4.canReplace b 1 1 = true := by decide +kernel
theorem e5 : H4.replace b 1 1 [c] = H5 := by rfl
theorem live_cases {n : Int} (h : (getL H5.objs n).isSome = true) : n = 1 ∨ n = 2 ∨ n = 3 := by
  obtain ⟨o, ho⟩ := Option.isSome_iff_exists.1 h
  have := getL_mem ho
  simp [H5] at this
  omega
theorem refs1 : H5.refsOf 1 = [2] := by rfl
theorem refs2 : H5.refsOf 2 = [1, 3] := by rfl
theorem refs3 : H5.refsOf 3 = [] := by rfl
theorem reached : H5.reachedM [b] = [1, 2, 3] := by
  have hL : ∀ n, n ∈ [(1 : Int), 2, 3] ↔ H5.R [b] n := by
    intro n
    have r2 : H5.R [b] 2 := .seed (by rfl) (by decide +kernel)
    constructor
    · intro h
      simp at h
      rcases h with rfl | rfl | rfl
      · exact .step r2 (by rw [refs2]; simp)
      · exact r2
      · exact .step r2 (by rw [refs2]; simp)
    · intro h
      rcases live_cases h.live with rfl | rfl | rfl <;> simp
  rw [← HeapM.reachedM_of hL]; rfl
theorem garbage0 : H5.garbageM [] = [1, 2, 3] := by
  have hL : ∀ n, n ∈ ([] : List Int) ↔ H5.R [] n := fun n => ⟨fun h => (by cases h), fun h => (HeapM.R_nil h).elim⟩
  rw [← HeapM.garbageM_of hL]; decide +kernel
theorem sweeps : H5.sweep [c] = H5 := by
  have hs : Sup H5 [c] (fun n => n = 1 ∨ n = 2 ∨ n = 3) := by
    intro n hn
    rcases hn with rfl | rfl | rfl
    · exact ⟨rfl, .inr ⟨2, oB', by simp, rfl, by decide +kernel⟩⟩
    · exact ⟨rfl, .inr ⟨1, oA', by simp, rfl, by decide +kernel⟩⟩
    · exact ⟨rfl, .inl (by decide +kernel)⟩
  have k1 : Kept H5 [c] 1 := ⟨_, hs, by simp⟩
  have k2 : Kept H5 [c] 2 := ⟨_, hs, by simp⟩
  have k3 : Kept H5 [c] 3 := ⟨_, hs, by simp⟩
  have : H5.objs.filter (fun p => @decide (Kept H5 [c] p.1) (Classical.propDecidable _)) = H5.objs := by
    refine List.filter_eq_self.2 fun p hp => ?_
    simp [H5] at hp
    rcases hp with rfl | rfl | rfl <;> simp [k1, k2, k3]
  unfold HeapM.sweep
  rw [this]
theorem garbage1 : H5.garbageM [c] = [1, 2] := by
  have hL : ∀ n, n ∈ [(3 : Int)] ↔ H5.R [c] n := by
    intro n
    constructor
    · intro h; simp at h; subst h; exact .seed (by rfl) (by decide +kernel)
    · intro h
      induction h with
      | seed h1 h2 =>
        rcases live_cases h1 with rfl | rfl | rfl
        · exact absurd h2 (by decide +kernel)
        · exact absurd h2 (by decide +kernel)
        · simp
      | step _ h2 ih =>
        simp at ih; subst ih
        rw [refs3] at h2; cases h2
  rw [← HeapM.garbageM_of hL]; decide +kernel
theorem collects : H5.collect [c] = H6 := by
  unfold HeapM.collect
  rw [sweeps, garbage1]; rfl
theorem lives : H5.live 6 = 1 ∧ H6.live 6 = 0 ∧ H6.live 0 = 1 := ⟨rfl, rfl, rfl⟩
end KC
end Go.Proofs.Ytjinabglachglaa
