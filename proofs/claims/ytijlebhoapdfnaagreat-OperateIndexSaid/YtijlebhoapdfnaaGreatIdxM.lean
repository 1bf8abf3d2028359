/- ch 16: what indices and slices tell, and leave (plain). -/
import Derived.Test.YtijlebhoapdfnaaGreatSlc
import Derived.Test.YtijlebhoapdfnaaGreatRef7
import Derived.Test.YtijlebhoapdfnaaGreatOperM
/- ch 16: what an operator tells, or what is raised (plain). -/
namespace Go.Proofs.YtijlebhoapdfnaaGreat
set_option linter.unusedSimpArgs false
open Go.RowKit
set_option linter.unusedVariables false
/-- A value, or what is raised: by its name; with what, if it has an argument. -/
structure AnsM where
 v : V
 nm : ByteArray
 ar : V
 has : Bool
def ansV (v : V) : AnsM := ⟨v, ⟨#[]⟩, V.zero, false⟩
def ansN (s : ByteArray) : AnsM := ⟨V.zero, s, V.zero, false⟩
def ansK (k : V) : AnsM := ⟨V.zero, keyError, k, true⟩
abbrev AnsM.exc (r : AnsM) : Value := .agg #[.string r.nm, .int .i64 r.ar.kind, .int .i64 r.ar.n, .string r.ar.s, .bool r.has]
abbrev AnsM.val (r : AnsM) : Value := .tuple #[.agg #[.int .i64 r.v.kind, .int .i64 r.v.n, .string r.v.s], r.exc]
def sV (s : ByteArray) (h : s.size ≤ maxLen) : V := ⟨3, 0, s, by decide, by decide, h⟩
theorem extract_le (s : ByteArray) (h : s.size ≤ maxLen) (i j : Nat) : (s.extract i j).size ≤ maxLen := by
 rw [ByteArray.size_extract]; omega
/-- A part of a str. -/
def subV (x : V) (i j : Nat) : V := sV (x.s.extract i j) (extract_le x.s x.hs i j)
end Go.Proofs.YtijlebhoapdfnaaGreat
namespace Go.Proofs.YtijlebhoapdfnaaGreat
set_option linter.unusedSimpArgs false
open Go.RowKit
set_option linter.unusedVariables false
theorem seesV_none (W : World) : SeesV W (.slice none 0 0) [] := ⟨none, 0, rfl, Nat.le_refl _, by unfold maxLen; omega, .inl rfl⟩
/-- A byte of a str, by its place. -/
def atS (s : ByteArray) (i : Int) : ByteArray := if inP s.size i = true then s.extract (placeP s.size i).toNat (placeP s.size i + 1).toNat else ⟨#[]⟩
theorem atS_le (x : V) (i : Int) : (atS x.s i).size ≤ maxLen := by
 unfold atS
 split
 ·
  exact extract_le x.s x.hs _ _
 ·
  decide
theorem at_in {H : HeapM} {x : V} {l : List V} (hl : H.items x = l) (i : Int) : (H.at x (if inP l.length i = true then placeP l.length i else -1)).isSome = inP l.length i := by
 by_cases h : inP l.length i = true
 ·
  rw [if_pos h, h]
  unfold inP at h
  simp at h
  unfold HeapM.at
  rw [if_pos h.1, hl]
  simp
  omega
 ·
  rw [if_neg h]
  have h2 : inP l.length i = false := by simpa using h
  rw [h2]; rfl
/-- Index. -/
def HeapM.idxM (H : HeapM) (x y : V) : AnsM :=
 if x.kind = 3 ∧ y.kind = 2 then (if inP x.s.size y.n = true then ansV (sV (atS x.s y.n) (atS_le x y.n)) else ansN indexError)
 else if H.rowB x = true ∧ y.kind = 2 then (if inP (H.items x).length y.n = true then ansV ((H.at x (placeP (H.items x).length y.n)).getD V.zero) else ansN indexError)
 else if H.kind x = 3 ∧ y.isKey = true then (match H.get x y with | some v => ansV v | none => ansK y)
 else ansN typeError
/-- What SetIndex raises, and leaves; DelIndex. -/
def HeapM.siE (H : HeapM) (x y : V) : AnsM :=
 if H.kind x = 1 ∧ y.kind = 2 then (if inP (H.items x).length y.n = true then ansV V.zero else ansN indexError)
 else if H.kind x = 3 ∧ y.isKey = true then (if H.canPut x y = true then ansV V.zero else ansN memoryError)
 else ansN typeError
def HeapM.siH (H : HeapM) (x y z : V) : HeapM :=
 if H.kind x = 1 ∧ y.kind = 2 then (if inP (H.items x).length y.n = true then H.setAt x (placeP (H.items x).length y.n) z else H)
 else if H.kind x = 3 ∧ y.isKey = true then H.put x y z
 else H
def HeapM.diE (H : HeapM) (x y : V) : AnsM :=
 if H.kind x = 1 ∧ y.kind = 2 then (if inP (H.items x).length y.n = true then ansV V.zero else ansN indexError)
 else if H.kind x = 3 ∧ y.isKey = true then (if H.has x y = true then ansV V.zero else ansK y)
 else ansN typeError
def HeapM.diH (H : HeapM) (x y : V) : HeapM :=
 if H.kind x = 1 ∧ y.kind = 2 then (if inP (H.items x).length y.n = true then H.replace x (placeP (H.items x).length y.n) (placeP (H.items x).length y.n + 1) [] else H)
 else if H.kind x = 3 ∧ y.isKey = true then H.del x y
 else H
theorem of_some {H : HeapM} {x : V} (h : H.kind x ≠ 0) : ∃ o, H.of x = some o ∧ H.kind x = o.kind ∧ H.items x = o.items := by
 unfold HeapM.kind at h ⊢
 unfold HeapM.items
 cases e : H.of x with
 | none => rw [e] at h; exact absurd rfl h
 | some o => exact ⟨o, rfl, rfl, rfl⟩
/-- The place that the document's has is in the row just where the code's is. -/
theorem inItems_p {H : HeapM} {x : V} (h : H.kind x = 1) (i : Int) : H.inItems x (if inP (H.items x).length i = true then placeP (H.items x).length i else -1) = inP (H.items x).length i := by
 obtain ⟨o, e1, e2, e3⟩ := of_some (H := H) (x := x) (by omega)
 rw [e3]
 unfold HeapM.inItems
 rw [e1]
 by_cases hp : inP o.items.length i = true
 ·
  rw [if_pos hp, hp]
  unfold inP at hp
  simpa using hp
 ·
  have h2 : inP o.items.length i = false := by simpa using hp
  rw [if_neg hp, h2]; rfl
theorem setAt_p {H : HeapM} {x : V} (h : H.kind x = 1) (i : Int) (z : V) : H.setAt x (if inP (H.items x).length i = true then placeP (H.items x).length i else -1) z = if inP (H.items x).length i = true then H.setAt x (placeP (H.items x).length i) z else H := by
 by_cases hp : inP (H.items x).length i = true
 ·
  rw [if_pos hp, if_pos hp]
 ·
  rw [if_neg hp, if_neg hp]
  unfold HeapM.setAt
  cases H.of x <;> rfl
theorem canReplace_p {H : HeapM} {x : V} (h : H.kind x = 1) {i : Int} (hp : inP (H.items x).length i = true) : H.canReplace x (placeP (H.items x).length i) (placeP (H.items x).length i + 1) = true := by
 obtain ⟨o, e1, e2, e3⟩ := of_some (H := H) (x := x) (by omega)
 rw [e3] at hp ⊢
 unfold HeapM.canReplace
 rw [e1]
 unfold inP at hp
 simp at hp
 simp; omega
theorem HeapM.Fit.siH {H : HeapM} {N : Nat} (F : H.Fit N) (x y z : V) : (H.siH x y z).Fit (N + 1) := by
 unfold HeapM.siH
 split
 ·
  split
  ·
   exact (F.setAt x _ z).more (by omega)
  ·
   exact F.more (by omega)
 ·
  split
  ·
   exact (F.put x y z).more (by omega)
  ·
   exact F.more (by omega)
theorem HeapM.Fit.diH {H : HeapM} {N : Nat} (F : H.Fit N) (x y : V) : (H.diH x y).Fit (N + 1) := by
 unfold HeapM.diH
 split
 ·
  split
  ·
   exact (F.replace x _ _ []).more (by simp)
  ·
   exact F.more (by omega)
 ·
  split
  ·
   exact (F.del x y).more (by omega)
  ·
   exact F.more (by omega)
/-- Slice: whether it is refused; what it tells, and leaves. -/
def HeapM.slN (H : HeapM) (x : V) : Int := if x.kind = 3 then (x.s.size : Nat) else ((H.items x).length : Nat)
def HeapM.slOk (H : HeapM) (x y z : V) : Bool := (decide (x.kind = 3) || H.rowB x) && (endB y && endB z)
def HeapM.slObj (H : HeapM) (x y z : V) : ObjM := rowO (H.kind x) (H.okKind x) (sliceL (H.items x) (endN y 0) (endN z (H.slN x)))
def HeapM.slA (H : HeapM) (hl : okI (H.last + 1)) (x y z : V) : AnsM :=
 if H.slOk x y z = true then (if x.kind = 3 then ansV (subV x (lowI x.s (endN y 0)).toNat (highI x.s (endN y 0) (endN z (H.slN x))).toNat) else ansV (V.ref (H.last + 1) hl)) else ansN typeError
def HeapM.slH (H : HeapM) (x y z : V) : HeapM := if H.slOk x y z = true then (if x.kind = 3 then H else H.add (H.slObj x y z)) else H
theorem HeapM.Fit.slH {H : HeapM} {N : Nat} (F : H.Fit N) (x y z : V) : (H.slH x y z).Fit (N + N + 2) := by
 unfold HeapM.slH
 split
 ·
  rename_i hok
  split
  ·
   exact F.more (by omega)
  ·
   rename_i hx
   have hr : H.rowB x = true := by
    unfold HeapM.slOk at hok
    rw [decide_eq_false hx] at hok
    simp at hok
    exact hok.1
   have hk := HeapM.rowB_kind hr
   refine (F.add (H.slObj x y z) ⟨by show 1 ≤ H.kind x; omega, by show H.kind x ≤ 12; omega⟩ rfl).more ?_
   show N + (sliceL (H.items x) (endN y 0) (endN z (H.slN x))).length + 2 ≤ N + N + 2
   rw [sliceL_len]
   have := F.G.items x
   have h4 := (lowN_eq (H.items x).length (endN y 0) (endN z (H.slN x))).2.2.2
   omega
 ·
  exact F.more (by omega)
end Go.Proofs.YtijlebhoapdfnaaGreat
