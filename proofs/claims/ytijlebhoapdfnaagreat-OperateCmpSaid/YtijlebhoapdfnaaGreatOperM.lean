/- ch 16: operators, plainly. -/
import Derived.Test.YtijlebhoapdfnaaGreatSep
namespace Go.Proofs.YtijlebhoapdfnaaGreat
set_option linter.unusedSimpArgs false
open Go.RowKit
set_option linter.unusedVariables false
/-- What is raised, as it lies. -/
abbrev excZ : Value := .agg #[.string ⟨#[]⟩, .int .i64 0, .int .i64 0, .string ⟨#[]⟩, .bool false]
abbrev excN (s : ByteArray) : Value := .agg #[.string s, .int .i64 0, .int .i64 0, .string ⟨#[]⟩, .bool false]
abbrev zeroV : Value := .agg #[.int .i64 0, .int .i64 0, .string ⟨#[]⟩]
abbrev typeError : ByteArray := ⟨#[84, 121, 112, 101, 69, 114, 114, 111, 114]⟩
abbrev indexError : ByteArray := ⟨#[73, 110, 100, 101, 120, 69, 114, 114, 111, 114]⟩
abbrev memoryError : ByteArray := ⟨#[77, 101, 109, 111, 114, 121, 69, 114, 114, 111, 114]⟩
abbrev recursionError : ByteArray := ⟨#[82, 101, 99, 117, 114, 115, 105, 111, 110, 69, 114, 114, 111, 114]⟩
abbrev keyError : ByteArray := ⟨#[75, 101, 121, 69, 114, 114, 111, 114]⟩
def HeapM.rowB (H : HeapM) (v : V) : Bool := decide (H.kind v = 1) || decide (H.kind v = 2)
def HeapM.wholeB (H : HeapM) (v : V) : Bool := H.rowB v || decide (H.kind v = 3)
def HeapM.sizeB (H : HeapM) (v : V) : Nat := if H.kind v = 3 then (H.pairs v).length else (H.items v).length
def HeapM.oneB (H : HeapM) (a b : V) : Bool := if H.kind a = 0 ∧ H.kind b = 0 then decide (a = b) else decide (H.kind a ≠ 0) && (decide (H.kind b ≠ 0) && decide (a.n = b.n))
/-- All of a row; none: too deep. -/
def allM {α : Type} (p : α → Option Bool) : List α → Option Bool
 | [] => some true
 | x :: l => match p x with | some true => allM p l | r => r
def HeapM.sameT (H : HeapM) (a b : V) (r : Option Bool) : Option Bool :=
 if H.oneB a b = true then some true
 else if H.wholeB a = false ∨ H.kind a ≠ H.kind b then some ((decide (H.kind a = 0) || decide (H.kind b = 0)) && decide (a = b))
 else if H.sizeB a ≠ H.sizeB b then some false
 else r
/-- Same, of two that may be so deep yet. -/
def HeapM.sameF (H : HeapM) : Nat → V → V → Option Bool
 | 0, a, b => H.sameT a b none
 | f + 1, a, b => H.sameT a b (if H.kind a = 3 then allM (fun k : V => match H.get b k with | none => some false | some y => H.sameF f ((H.get a k).getD V.zero) y) ((H.pairs a).map (·.1))
   else allM (fun p : V × V => H.sameF f p.1 p.2) ((H.items a).zip (H.items b)))
/-- What Same answers, as it lies. -/
def sameV (r : Option Bool) : Value := .tuple #[.bool (r.getD false), match r with | some _ => excZ | none => excN recursionError]
/-- What is told: the text, and what is raised. -/
inductive Fell | no | memory | deep
 deriving DecidableEq
def Fell.name : Fell → ByteArray | .no => ⟨#[]⟩ | .memory => memoryError | .deep => recursionError
structure TelM where
 out : List UInt8
 fell : Fell
def TelM.say (t : TelM) (s : List UInt8) : TelM :=
 match t.fell with
 | .no => if t.out.length + s.length > 65536 then ⟨t.out, .memory⟩ else ⟨t.out ++ s, .no⟩
 | _ => t
theorem TelM.say_fell {t : TelM} (h : t.fell ≠ .no) (s : List UInt8) : t.say s = t := by
 unfold TelM.say
 cases e : t.fell with
 | no => exact absurd e h
 | _ => rfl
def digitsU (m : Nat) : List UInt8 := if m < 10 then [(48 + m).toUInt8] else digitsU (m / 10) ++ [(48 + m % 10).toUInt8]
def textN (n : Int) : List UInt8 := (if n < 0 then [45] else []) ++ digitsU n.natAbs
def hexD (n : Nat) : UInt8 := if n < 10 then (48 + n).toUInt8 else (87 + n).toUInt8
def quoteC (c : UInt8) : List UInt8 :=
 if c = 10 then [92, 110] else if c = 9 then [92, 116] else if c = 92 ∨ c = 39 then [92, c] else if c < 32 ∨ 126 < c then [92, 120, hexD (c.toNat / 16), hexD (c.toNat % 16)] else [c]
def quoteL (l : List UInt8) : List UInt8 := 39 :: (l.flatMap quoteC ++ [39])
def wordK (k : Int) : List UInt8 :=
 if k = 0 then [100, 101, 97, 100] else if k = 4 then [102, 117, 110, 99, 116, 105, 111, 110, 32] else if k = 5 then [99, 108, 97, 115, 115, 32] else if k = 7 then [109, 101, 116, 104, 111, 100, 32] else if k = 8 then [103, 101, 110, 101, 114, 97, 116, 111, 114, 32]
 else if k = 12 then [109, 111, 100, 117, 108, 101, 32] else if k = 9 then [105, 116, 101, 114, 97, 116, 111, 114] else if k = 10 then [99, 101, 108, 108] else if k = 11 then [119, 101, 97, 107] else []
/-- Whether a name stands behind the word. -/
def namedK (k : Int) : Bool := decide (k = 4 ∨ k = 5 ∨ k = 6 ∨ k = 7 ∨ k = 8 ∨ k = 12)
def HeapM.plainL (H : HeapM) (v : V) : List UInt8 :=
 if v.kind = 0 then [78, 111, 110, 101]
 else if v.kind = 1 then (if v.n ≠ 0 then [84, 114, 117, 101] else [70, 97, 108, 115, 101])
 else if v.kind = 2 then textN v.n
 else if v.kind = 3 then quoteL v.s.data.toList
 else if v.kind = 5 then [60, 98, 117, 105, 108, 116, 105, 110, 32] ++ v.s.data.toList ++ [62]
 else 60 :: (wordK (H.kind v) ++ (if namedK (H.kind v) = true then (H.name v).data.toList else []) ++ [62])
/-- Parts, one behind the other. -/
def partsF : Bool → List (TelM → TelM) → TelM → TelM
 | _, [], t => t
 | first, p :: l, t => partsF false l (p (if first = true then t else t.say [44, 32]))
def rowF (o c : List UInt8) (l : List (TelM → TelM)) (t : TelM) : TelM := (partsF true l (t.say o)).say c
def HeapM.tellT (H : HeapM) (v : V) (t r : TelM) : TelM :=
 match t.fell with
 | .no => if H.wholeB v = false then t.say (H.plainL v) else r
 | _ => t
def HeapM.tellF (H : HeapM) : Nat → V → TelM → TelM
 | 0, v, t => H.tellT v t ⟨t.out, .deep⟩
 | f + 1, v, t => H.tellT v t
   (if H.kind v = 1 then rowF [91] [93] ((H.items v).map fun x => H.tellF f x) t
   else if H.kind v = 2 then rowF [40] (if (H.items v).length = 1 then [44, 41] else [41]) ((H.items v).map fun x => H.tellF f x) t
   else rowF [123] [125] ((H.pairs v).map fun p => fun t => H.tellF f ((H.get v p.1).getD V.zero) ((H.tellF f p.1 t).say [58, 32])) t)
/-- What Repr answers, as it lies. -/
def reprV (t : TelM) : Value := match t.fell with | .no => .tuple #[.string ⟨t.out.toArray⟩, excZ] | f => .tuple #[.string ⟨#[]⟩, excN f.name]
def HeapM.reprM (H : HeapM) (v : V) : TelM := H.tellF 30 v ⟨[], .no⟩
theorem HeapM.tellT_fell {H : HeapM} {v : V} {t r : TelM} (h : t.fell ≠ .no) : H.tellT v t r = t := by
 unfold HeapM.tellT
 cases e : t.fell with
 | no => exact absurd e h
 | _ => rfl
theorem HeapM.tellF_fell {H : HeapM} {f : Nat} {v : V} {t : TelM} (h : t.fell ≠ .no) : H.tellF f v t = t := by
 cases f <;> exact HeapM.tellT_fell h
theorem partsF_fell : ∀ (l : List (TelM → TelM)) (first : Bool) {t : TelM}, t.fell ≠ .no → (∀ p ∈ l, ∀ t : TelM, t.fell ≠ .no → p t = t) → partsF first l t = t
 | [], _, t, _, _ => rfl
 | p :: l, first, t, h, hp => by
  unfold partsF
  have e : (if first = true then t else t.say [44, 32]) = t := by split; rfl; exact TelM.say_fell h _
  rw [e, hp p (by simp) t h]
  exact partsF_fell l false h fun q hq => hp q (by simp [hq])
end Go.Proofs.YtijlebhoapdfnaaGreat
