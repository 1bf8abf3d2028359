/- As many attributes as a dict may have: plainly. -/
import Derived.Test.YtkocenlglodklaaFindsM
namespace Go.Proofs.Ytkocenlglodklaa
set_option linter.unusedSimpArgs false
open Go.RowKit
set_option linter.unusedVariables false
theorem opens_put (H : HeapM) (v k x y : V) : (H.put v k x).opens y = H.opens y := by
  have h2 : (H.put v k x).isClass = H.isClass := funext (isClass_put H v k x)
  have h3 : ∀ i, (H.put v k x).at y i = H.at y i := fun i => by unfold HeapM.at; rw [items_put]
  have h1 : (H.put v k x).ofM y = H.ofM y := by unfold HeapM.ofM; rw [kind_put, h3, h2]
  unfold HeapM.opens
  rw [h1, h2]
/-- The name of two bytes. -/
def twoS (i : Nat) : ByteArray := ⟨#[UInt8.ofNat (i % 256), UInt8.ofNat (i / 256)]⟩
theorem twoS_le (i : Nat) : (twoS i).size ≤ maxLen := by show 2 ≤ maxLen; decide
def twoK (i : Nat) : V := keyS (twoS i) (twoS_le i)
theorem twoK_inj {i j : Nat} (hi : i < 4096) (hj : j < 4096) (h : twoK i = twoK j) : i = j := by
  have h1 : twoS i = twoS j := congrArg V.s h
  unfold twoS at h1
  have h2 := ByteArray.mk.inj h1
  simp only [List.toArray_inj, Array.mk.injEq, List.cons.injEq, and_true] at h2
  obtain ⟨a, b⟩ := h2
  have a1 := congrArg UInt8.toNat a
  have b1 := congrArg UInt8.toNat b
  simp only [UInt8.toNat_ofNat'] at a1 b1
  omega
def xyzS : ByteArray := ⟨#[120, 121, 122]⟩
theorem xyzS_le : xyzS.size ≤ maxLen := by decide
def xyzK : V := keyS xyzS xyzS_le
theorem twoK_ne (i : Nat) : twoK i ≠ xyzK := fun h => by
  have h1 : (twoS i).size = xyzS.size := congrArg (fun v : V => v.s.size) h
  exact absurd h1 (by show ¬ 2 = 3; omega)
/-- With so many of the names. -/
structure FullAt (v : V) (k : Nat) (H : HeapM) : Prop where
  fit : H.Fit (10 + k)
  ob : ∃ o, H.of v = some o ∧ o.pairs.map (·.1) = (List.range k).map twoK
  opens : H.opens v = true
theorem FullAt.can {v : V} {k : Nat} {H : HeapM} (F : FullAt v k H) (hk : k < 4096) : H.canPut v (twoK k) = true := by
  obtain ⟨o, h1, h2⟩ := F.ob
  have hl : o.pairs.length = k := by have := congrArg List.length h2; simpa using this
  unfold HeapM.canPut
  rw [h1]
  simp only [putOk, Bool.or_eq_true, Bool.and_eq_true, decide_eq_true_eq]
  exact .inr ⟨rfl, by omega⟩
theorem FullAt.next {v : V} {k : Nat} {H : HeapM} (F : FullAt v k H) (hk : k < 4096) (x : V) : FullAt v (k + 1) (H.put v (twoK k) x) := by
  have hc := F.can hk
  obtain ⟨o, h1, h2⟩ := F.ob
  refine ⟨F.fit.put v (twoK k) x, ⟨_, by rw [of_put, h1], ?_⟩, by rw [opens_put]; exact F.opens⟩
  rw [if_pos ⟨rfl, hc⟩]
  have hn : getL o.pairs (twoK k) = none := by
    rw [getL_none]
    intro p hp e
    have : p.1 ∈ o.pairs.map (·.1) := List.mem_map_of_mem hp
    rw [h2] at this
    obtain ⟨j, hj, ej⟩ := List.mem_map.1 this
    have hj := List.mem_range.1 hj
    have := twoK_inj (by omega) hk (ej.trans e)
    omega
  show (putL o.pairs (twoK k) x).map (·.1) = _
  rw [putL_none x hn, List.map_append, h2, List.range_succ, List.map_append]
  rfl
theorem FullAt.full {v : V} {H : HeapM} (F : FullAt v 4096 H) (x y : V) : H.canPut v xyzK = false ∧ H.put v xyzK x = H ∧ ∀ i, i < 4096 → H.canPut v (twoK i) = true ∧ ((H.put v (twoK i) y).pairs v).length = 4096 := by
  obtain ⟨o, h1, h2⟩ := F.ob
  have hl : o.pairs.length = 4096 := by have := congrArg List.length h2; simpa using this
  have hc : putOk o.pairs xyzK = false := by
    have hn : getL o.pairs xyzK = none := by
      rw [getL_none]
      intro p hp e
      have : p.1 ∈ o.pairs.map (·.1) := List.mem_map_of_mem hp
      rw [h2] at this
      obtain ⟨j, hj, ej⟩ := List.mem_map.1 this
      exact twoK_ne j (ej.trans e)
    unfold putOk
    rw [hn, hl]
    simp
  refine ⟨by unfold HeapM.canPut; rw [h1]; exact hc, by unfold HeapM.put; rw [h1]; simp [hc], fun i hi => ?_⟩
  have hs : (getL o.pairs (twoK i)).isSome = true := by
    cases g : getL o.pairs (twoK i) with
    | some _ => rfl
    | none =>
      have hm : twoK i ∈ o.pairs.map (·.1) := by rw [h2]; exact List.mem_map_of_mem (List.mem_range.2 hi)
      obtain ⟨p, hp, e⟩ := List.mem_map.1 hm
      exact absurd e (getL_none.1 g p hp)
  have hcan : H.canPut v (twoK i) = true := by unfold HeapM.canPut; rw [h1]; simp [putOk, hs]
  refine ⟨hcan, ?_⟩
  obtain ⟨x0, hx0⟩ := Option.isSome_iff_exists.1 hs
  have h3 : (H.put v (twoK i) y).of v = some { o with pairs := putL o.pairs (twoK i) y } := by
    rw [of_put, h1]; simp [hcan]
  unfold HeapM.pairs
  rw [h3]
  show (putL o.pairs (twoK i) y).length = 4096
  rw [putL_length y hx0, hl]
def r1F : V := V.ref 1 (by decide)
def r2F : V := V.ref 2 (by decide)
def r3F : V := V.ref 3 (by decide)
def dictH : HeapM := (⟨[], 0⟩ : HeapM).add dictO
theorem dictH_fit : dictH.Fit 2 := fit_empty.addP dictO (by decide) rfl (by simp [dictO])
noncomputable def clsO : ObjM := classO ⟨#[67]⟩ (by decide) [] []
noncomputable def clsH : HeapM := dictH.add clsO
theorem clsH_mk (hs : (⟨#[67]⟩ : ByteArray).size ≤ maxLen) : dictH.mkClass ⟨#[67]⟩ hs [] r1F = some clsH := by
  rw [mkClass_of (by rfl : dictH.c3 [] = some []) (by rfl)]
  rfl
theorem clsH_fit : clsH.Fit 5 := by
  have := dictH_fit.made (M := 5) (s := ⟨#[67]⟩) (hs := by decide) (by rfl : dictH.c3 [] = some []) r1F (by decide)
  exact this
theorem clsH_of : clsH.of r2F = some clsO := by
  unfold clsH
  rw [of_add dictH_fit.G, if_pos ⟨rfl, rfl⟩]
theorem clsH_class : clsH.isClass r2F = true := by unfold HeapM.isClass HeapM.kind; rw [clsH_of]; rfl
theorem clsH_name : clsH.name r2F = ⟨#[67]⟩ := by unfold HeapM.name; rw [clsH_of]; rfl
theorem clsH_full : FullAt r2F 0 clsH :=
  ⟨clsH_fit.more (by omega), ⟨_, clsH_of, rfl⟩, by unfold HeapM.opens; rw [clsH_class]; simp⟩
noncomputable def insH : HeapM := clsH.add (instO ⟨#[67]⟩ (by decide) r2F)
theorem insH_of : insH.of r3F = some (instO ⟨#[67]⟩ (by decide) r2F) := by
  unfold insH
  rw [of_add clsH_fit.G, if_pos ⟨rfl, rfl⟩]
theorem insH_of2 : insH.of r2F = some clsO := by
  unfold insH
  rw [of_add clsH_fit.G, if_neg (by rintro ⟨_, e⟩; exact absurd e (by decide)), clsH_of]
theorem insH_class : insH.isClass r2F = true := by unfold HeapM.isClass HeapM.kind; rw [insH_of2]; rfl
theorem insH_full : FullAt r3F 0 insH := by
  refine ⟨(clsH_fit.addP (M := 10) _ (by simp [instO]) rfl (by simp [instO])), ⟨_, insH_of, rfl⟩, ?_⟩
  have h := getA_inst insH_of rfl (c := r2F) rfl insH_class rfl xyzK
  exact h.1
end Go.Proofs.Ytkocenlglodklaa
