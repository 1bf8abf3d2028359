/- A class has the pairs of its space: plainly. -/
import Derived.Test.YtkocenlglodklaaFindsM
namespace Go.Proofs.Ytkocenlglodklaa
set_option linter.unusedSimpArgs false
open Go.RowKit
set_option linter.unusedVariables false
def one1 : V := ⟨2, 1, ⟨#[]⟩, by decide, by decide, by decide⟩
def spaceO : ObjM := ⟨3, ⟨#[115]⟩, 9, [one1], [], by decide, by decide, by decide⟩
def r1V : V := V.ref 1 (by decide)
def r2V : V := V.ref 2 (by decide)
/-- The space, with so many pairs put. -/
def spaceH (P : List (V × V)) : HeapM := P.foldl (fun H p => H.put r1V p.1 p.2) ((⟨[], 0⟩ : HeapM).add spaceO)
theorem spaceH_snoc (P : List (V × V)) (p : V × V) : spaceH (P ++ [p]) = (spaceH P).put r1V p.1 p.2 := by unfold spaceH; rw [List.foldl_append]; rfl
structure SpaceOk (H : HeapM) (k : Nat) : Prop where
  fit : H.Fit (k + 10)
  last : H.last = 1
  ob : ∃ ps, H.of r1V = some { spaceO with pairs := ps } ∧ ps.length ≤ k
theorem SpaceOk.empty : SpaceOk (spaceH []) 0 :=
  ⟨(fit_empty.addP spaceO (by decide) rfl (by simp [spaceO])), rfl, [], rfl, Nat.le_refl _⟩
theorem SpaceOk.put {H : HeapM} {k : Nat} (h : SpaceOk H k) (y x : V) : SpaceOk (H.put r1V y x) (k + 1) := by
  obtain ⟨ps, h1, h2⟩ := h.ob
  refine ⟨(h.fit.put r1V y x).more (by omega), by rw [last_put]; exact h.last, ?_⟩
  by_cases hp : H.canPut r1V y = true
  · refine ⟨putL ps y x, by rw [of_put, h1]; simp [hp], ?_⟩
    have := putL_len (l := ps) (k := y) (x := x)
    omega
  · refine ⟨ps, by rw [of_put, h1]; simp [hp], by omega⟩
/-- The heaps of ObjectSpace: H: the space is full; X: the class is made; Y: another pair is put into the space; Z: the class has another attribute. -/
def newS : ByteArray := ⟨#[110, 101, 119]⟩
theorem newS_le : newS.size ≤ maxLen := by decide
def newK : V := keyS newS newS_le
structure SpaceAll (H X Y Z : HeapM) (ps : List (V × V)) (m0 m1 y4 : V) : Prop where
  p0 : H.pairs r1V = ps
  mkc : ∀ hs : (⟨#[67]⟩ : ByteArray).size ≤ maxLen, H.mkClass ⟨#[67]⟩ hs [] r1V = some X
  fX : X.Fit 100
  pc : X.pairs r2V = ps ∧ X.pairs r1V = ps
  tell : X.num r1V = 9 ∧ (X.items r1V).length = 1 ∧ X.name r2V = ⟨#[67]⟩ ∧ (X.items r2V).length = 0
  eY : Y = X.put r1V m0 m1
  fY : Y.Fit 101
  pY : Y.pairs r2V = ps
  oY : Y.opens r2V = true ∧ Y.canPut r2V newK = true
  eZ : Z = Y.put r2V newK y4
  fZ : Z.Fit 102
  hZ : (Z.get r1V newK).isSome = (decide (newK ∈ ps.map (·.1)) || decide (m0 = newK))
theorem getL_isSome {L : List (V × V)} (k : V) : (getL L k).isSome = decide (k ∈ L.map (·.1)) := by
  rw [Bool.eq_iff_iff, decide_eq_true_eq]
  constructor
  · intro h
    obtain ⟨x, hx⟩ := Option.isSome_iff_exists.1 h
    exact List.mem_map.2 ⟨(k, x), getL_mem hx, rfl⟩
  · intro h
    obtain ⟨p, hp, rfl⟩ := List.mem_map.1 h
    cases g : getL L p.1 with
    | some x => rfl
    | none => exact absurd rfl (getL_none.1 g p hp)
theorem space_facts {H : HeapM} {k : Nat} (h : SpaceOk H k) (hk : k ≤ 20) (m0 m1 y4 : V) : ∃ X Y Z ps, SpaceAll H X Y Z ps m0 m1 y4 := by
  obtain ⟨ps, h1, h2⟩ := h.ob
  have hp : H.pairs r1V = ps := by unfold HeapM.pairs; rw [h1]; rfl
  have hkd : H.kind r1V = 3 := by unfold HeapM.kind; rw [h1]; rfl
  obtain ⟨X, hX⟩ : ∃ X, X = H.add (classO ⟨#[67]⟩ (by decide) [] ps) := ⟨_, rfl⟩
  have c3 : H.c3 [] = some [] := by rfl
  have mk : ∀ hs : (⟨#[67]⟩ : ByteArray).size ≤ maxLen, H.mkClass ⟨#[67]⟩ hs [] r1V = some X := fun hs => by
    rw [mkClass_of c3 hkd, hp, hX]
  have fX : X.Fit 100 := by
    rw [hX, ← hp]
    exact h.fit.made c3 r1V (by rw [hp, h.last]; simp; omega)
  have x1 : X.of r1V = H.of r1V := by rw [hX, of_add h.fit.G, if_neg (by rw [h.last]; decide)]
  have x2 : X.of r2V = some (classO ⟨#[67]⟩ (by decide) [] ps) := by rw [hX, of_add h.fit.G, if_pos ⟨rfl, by rw [h.last]; rfl⟩]
  rw [h1] at x1
  obtain ⟨Y, hY⟩ : ∃ Y, Y = X.put r1V m0 m1 := ⟨_, rfl⟩
  have y2 : Y.of r2V = some (classO ⟨#[67]⟩ (by decide) [] ps) := by
    rw [hY, of_put, x2]
    simp only
    rw [if_neg (by rintro ⟨e, _⟩; exact absurd e (by decide))]
  have y1 : Y.of r1V = some { spaceO with pairs := if X.canPut r1V m0 = true then putL ps m0 m1 else ps } := by
    rw [hY, of_put, x1]
    by_cases hc : X.canPut r1V m0 = true <;> simp [hc]
  have cY : Y.isClass r2V = true := by unfold HeapM.isClass HeapM.kind; rw [y2]; rfl
  have pY : Y.canPut r2V newK = true := by
    unfold HeapM.canPut
    rw [y2]
    simp only [putOk, Bool.or_eq_true, Bool.and_eq_true, decide_eq_true_eq]
    exact .inr ⟨rfl, by show ps.length < 4096; omega⟩
  obtain ⟨Z, hZ⟩ : ∃ Z, Z = Y.put r2V newK y4 := ⟨_, rfl⟩
  have z1 : Z.of r1V = Y.of r1V := by
    rw [hZ, of_put, y1]
    simp only
    rw [if_neg (by rintro ⟨e, _⟩; exact absurd e (by decide))]
  have fY := fX.put r1V m0 m1
  rw [← hY] at fY
  have fZ := fY.put r2V newK y4
  rw [← hZ] at fZ
  refine ⟨X, Y, Z, ps, hp, mk, fX, ⟨?_, ?_⟩, ⟨?_, ?_, ?_, ?_⟩, hY, fY, ?_, ⟨?_, pY⟩, hZ, fZ, ?_⟩
  · unfold HeapM.pairs; rw [x2]; rfl
  · unfold HeapM.pairs; rw [x1]; rfl
  · unfold HeapM.num; rw [x1]; rfl
  · unfold HeapM.items; rw [x1]; rfl
  · unfold HeapM.name; rw [x2]; rfl
  · unfold HeapM.items; rw [x2]; rfl
  · unfold HeapM.pairs; rw [y2]; rfl
  · unfold HeapM.opens; rw [cY]; simp
  · unfold HeapM.get HeapM.pairs
    rw [z1, y1]
    show (getL (if X.canPut r1V m0 = true then putL ps m0 m1 else ps) newK).isSome = _
    by_cases hm : m0 = newK
    · subst hm
      have hc : X.canPut r1V newK = true := by
        unfold HeapM.canPut
        rw [x1]
        simp only [putOk, Bool.or_eq_true, Bool.and_eq_true, decide_eq_true_eq]
        exact .inr ⟨rfl, by omega⟩
      rw [if_pos hc, getL_putL, if_pos rfl]; simp
    · rw [show decide (m0 = newK) = false by simp [hm], Bool.or_false, ← getL_isSome]
      by_cases hc : X.canPut r1V m0 = true
      · rw [if_pos hc, getL_putL, if_neg (fun e => hm e.symm)]
      · rw [if_neg hc]
end Go.Proofs.Ytkocenlglodklaa
