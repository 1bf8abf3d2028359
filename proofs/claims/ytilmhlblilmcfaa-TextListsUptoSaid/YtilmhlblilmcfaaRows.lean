/-
  No cell of these rows narrows 'for every input' (looked for: loops, veiled, ifaces, maps, wideKeys, modest, calm, conditions, laid).
  DERIVED. THE GIVEN ROWS OF THIS SEAT. 10 by the template 'for every input the law returns true; each argument reads behind the call as it read before'; 0 by the template 'total and deterministic' (their statements: YtilmhlblilmcfaaTotals.lean).
  GIVEN WITH THE SEED: the statements are not yours to turn. If you find one false, say at which input.
  Laid BY PROGRAM, IN A SANDBOX (cutbox-rows.mjs): the forced cells as the released guide's own fill.sh prints them over the translation 2a333dd4ed60a016… (all of the seat's roots in one cut). By AI agents, Wed Nov 11 2026. No macro, syntax, notation, axiom, sorry.
-/
import Derived.Test.YtilmhlblilmcfaaChecked
import GoSem.Claim
import GoSem.ClaimJoined
import GoSem.ClaimMapViews
import Derived.JoinedTies
import Derived.KernelRfl
namespace Go.Proofs.Ytilmhlblilmcfaa
/- THE CELL 'sum', in the pinned program and in every row, IS THE sha256 OF THE DUMP (.gsa) THAT YtilmhlblilmcfaaProg.lean LOADS. Nothing in Lean hashes anything: it is a label: what it is worth is what the hold of that sum in a sandbox is worth. -/
noncomputable def Try.pinned : Pinned := { name := "ytilmhlblilmcfaa", sum := "2a333dd4ed60a016804e330acc33d1ee00ded2bea752c8497cc6a908b4b6ccae", checked := Try.checked }
namespace Rows
def none {H : Type} : Left H := { results := [], args := [] }

/-- 'kraitlaw09.TextJoins': WHATEVER THE INPUT: true; the input reads as it did. -/
def textJoinsSpec : ChangeSpec := { name := "textJoins", fn := fun _ => fun
  | [d1, d2, d3] => { results := [.lit (.bool true)], args := [d1, d2, d3] }
  | _ => none }
def textJoinsRow : OpenClaim := { program := "ytilmhlblilmcfaa", sum := "2a333dd4ed60a016804e330acc33d1ee00ded2bea752c8497cc6a908b4b6ccae", func := "krait/kraitlaw09.TextJoins", spec := "textJoins", inPlace := ["internal/abi.NoEscape", "internal/bytealg.MakeNoZero", "internal/bytealg.IndexByteString", "internal/bytealg.IndexString"], unfollowed := true, recurses := true, named := ["internal/bytealg.MaxLen"], apart := false }
def TextJoinsSaid : Prop := textJoinsRow.holds Try.pinned (OpenSpec.ofChange textJoinsSpec)

/-- ITS FALSE NEIGHBOUR: 'it returns false'. Refute it at one input. -/
def textJoinsWrong : ChangeSpec := { name := "textJoins", fn := fun _ => fun
  | [d1, d2, d3] => { results := [.lit (.bool false)], args := [d1, d2, d3] }
  | _ => none }
def TextJoinsWrongFalsely : Prop := textJoinsRow.holds Try.pinned (OpenSpec.ofChange textJoinsWrong)

/-- 'kraitlaw09.TextCuts': WHATEVER THE INPUT: true; the input reads as it did. -/
def textCutsSpec : ChangeSpec := { name := "textCuts", fn := fun _ => fun
  | [d1, d2, d3, d4] => { results := [.lit (.bool true)], args := [d1, d2, d3, d4] }
  | _ => none }
def textCutsRow : OpenClaim := { program := "ytilmhlblilmcfaa", sum := "2a333dd4ed60a016804e330acc33d1ee00ded2bea752c8497cc6a908b4b6ccae", func := "krait/kraitlaw09.TextCuts", spec := "textCuts", inPlace := ["internal/abi.NoEscape", "internal/bytealg.MakeNoZero", "internal/bytealg.IndexByteString", "internal/bytealg.IndexString"], unfollowed := true, recurses := true, named := ["internal/bytealg.MaxLen"], apart := false }
def TextCutsSaid : Prop := textCutsRow.holds Try.pinned (OpenSpec.ofChange textCutsSpec)

/-- ITS FALSE NEIGHBOUR: 'it returns false'. Refute it at one input. -/
def textCutsWrong : ChangeSpec := { name := "textCuts", fn := fun _ => fun
  | [d1, d2, d3, d4] => { results := [.lit (.bool false)], args := [d1, d2, d3, d4] }
  | _ => none }
def TextCutsWrongFalsely : Prop := textCutsRow.holds Try.pinned (OpenSpec.ofChange textCutsWrong)

/-- 'kraitlaw09.TextLists': WHATEVER THE INPUT: true; the input reads as it did. -/
def textListsSpec : ChangeSpec := { name := "textLists", fn := fun _ => fun
  | [d1, d2] => { results := [.lit (.bool true)], args := [d1, d2] }
  | _ => none }
def textListsRow : OpenClaim := { program := "ytilmhlblilmcfaa", sum := "2a333dd4ed60a016804e330acc33d1ee00ded2bea752c8497cc6a908b4b6ccae", func := "krait/kraitlaw09.TextLists", spec := "textLists", inPlace := ["internal/abi.NoEscape", "internal/bytealg.MakeNoZero", "internal/bytealg.IndexByteString", "internal/bytealg.IndexString"], unfollowed := true, recurses := true, named := ["internal/bytealg.MaxLen"], apart := false }
def TextListsSaid : Prop := textListsRow.holds Try.pinned (OpenSpec.ofChange textListsSpec)

/-- ITS FALSE NEIGHBOUR: 'it returns false'. Refute it at one input. -/
def textListsWrong : ChangeSpec := { name := "textLists", fn := fun _ => fun
  | [d1, d2] => { results := [.lit (.bool false)], args := [d1, d2] }
  | _ => none }
def TextListsWrongFalsely : Prop := textListsRow.holds Try.pinned (OpenSpec.ofChange textListsWrong)

/-- 'kraitlaw09.TextSplits': WHATEVER THE INPUT: true; the input reads as it did. -/
def textSplitsSpec : ChangeSpec := { name := "textSplits", fn := fun _ => fun
  | [d1, d2] => { results := [.lit (.bool true)], args := [d1, d2] }
  | _ => none }
def textSplitsRow : OpenClaim := { program := "ytilmhlblilmcfaa", sum := "2a333dd4ed60a016804e330acc33d1ee00ded2bea752c8497cc6a908b4b6ccae", func := "krait/kraitlaw09.TextSplits", spec := "textSplits", inPlace := ["internal/bytealg.IndexByteString", "internal/bytealg.IndexString", "internal/abi.NoEscape", "internal/bytealg.MakeNoZero"], unfollowed := true, recurses := true, named := ["internal/bytealg.MaxLen"], apart := false }
def TextSplitsSaid : Prop := textSplitsRow.holds Try.pinned (OpenSpec.ofChange textSplitsSpec)

/-- ITS FALSE NEIGHBOUR: 'it returns false'. Refute it at one input. -/
def textSplitsWrong : ChangeSpec := { name := "textSplits", fn := fun _ => fun
  | [d1, d2] => { results := [.lit (.bool false)], args := [d1, d2] }
  | _ => none }
def TextSplitsWrongFalsely : Prop := textSplitsRow.holds Try.pinned (OpenSpec.ofChange textSplitsWrong)

/-- 'kraitlaw09.TextOrder': WHATEVER THE INPUT: true; the input reads as it did. -/
def textOrderSpec : ChangeSpec := { name := "textOrder", fn := fun _ => fun
  | [d1, d2, d3] => { results := [.lit (.bool true)], args := [d1, d2, d3] }
  | _ => none }
def textOrderRow : OpenClaim := { program := "ytilmhlblilmcfaa", sum := "2a333dd4ed60a016804e330acc33d1ee00ded2bea752c8497cc6a908b4b6ccae", func := "krait/kraitlaw09.TextOrder", spec := "textOrder", inPlace := ["internal/abi.NoEscape", "internal/bytealg.MakeNoZero", "internal/bytealg.IndexByteString", "internal/bytealg.IndexString"], unfollowed := true, recurses := true, named := ["internal/bytealg.MaxLen"], apart := false }
def TextOrderSaid : Prop := textOrderRow.holds Try.pinned (OpenSpec.ofChange textOrderSpec)

/-- ITS FALSE NEIGHBOUR: 'it returns false'. Refute it at one input. -/
def textOrderWrong : ChangeSpec := { name := "textOrder", fn := fun _ => fun
  | [d1, d2, d3] => { results := [.lit (.bool false)], args := [d1, d2, d3] }
  | _ => none }
def TextOrderWrongFalsely : Prop := textOrderRow.holds Try.pinned (OpenSpec.ofChange textOrderWrong)

/-- 'kraitlaw09.TextBack': WHATEVER THE INPUT: true; the input reads as it did. -/
def textBackSpec : ChangeSpec := { name := "textBack", fn := fun _ => fun
  | [d1, d2] => { results := [.lit (.bool true)], args := [d1, d2] }
  | _ => none }
def textBackRow : OpenClaim := { program := "ytilmhlblilmcfaa", sum := "2a333dd4ed60a016804e330acc33d1ee00ded2bea752c8497cc6a908b4b6ccae", func := "krait/kraitlaw09.TextBack", spec := "textBack", inPlace := ["internal/bytealg.IndexByteString", "internal/bytealg.IndexString", "internal/abi.NoEscape", "internal/bytealg.MakeNoZero"], unfollowed := true, recurses := true, named := ["internal/bytealg.MaxLen"], apart := false }
def TextBackSaid : Prop := textBackRow.holds Try.pinned (OpenSpec.ofChange textBackSpec)

/-- ITS FALSE NEIGHBOUR: 'it returns false'. Refute it at one input. -/
def textBackWrong : ChangeSpec := { name := "textBack", fn := fun _ => fun
  | [d1, d2] => { results := [.lit (.bool false)], args := [d1, d2] }
  | _ => none }
def TextBackWrongFalsely : Prop := textBackRow.holds Try.pinned (OpenSpec.ofChange textBackWrong)

/-- 'kraitlaw09.TextWhole': WHATEVER THE INPUT: true; the input reads as it did. -/
def textWholeSpec : ChangeSpec := { name := "textWhole", fn := fun _ => fun
  | [d1, d2] => { results := [.lit (.bool true)], args := [d1, d2] }
  | _ => none }
def textWholeRow : OpenClaim := { program := "ytilmhlblilmcfaa", sum := "2a333dd4ed60a016804e330acc33d1ee00ded2bea752c8497cc6a908b4b6ccae", func := "krait/kraitlaw09.TextWhole", spec := "textWhole", inPlace := ["internal/abi.NoEscape", "internal/bytealg.MakeNoZero", "internal/bytealg.IndexByteString", "internal/bytealg.IndexString"], unfollowed := true, recurses := true, named := ["internal/bytealg.MaxLen"], apart := false }
def TextWholeSaid : Prop := textWholeRow.holds Try.pinned (OpenSpec.ofChange textWholeSpec)

/-- ITS FALSE NEIGHBOUR: 'it returns false'. Refute it at one input. -/
def textWholeWrong : ChangeSpec := { name := "textWhole", fn := fun _ => fun
  | [d1, d2] => { results := [.lit (.bool false)], args := [d1, d2] }
  | _ => none }
def TextWholeWrongFalsely : Prop := textWholeRow.holds Try.pinned (OpenSpec.ofChange textWholeWrong)

/-- 'kraitlaw09.TextFound': WHATEVER THE INPUT: true; the input reads as it did. -/
def textFoundSpec : ChangeSpec := { name := "textFound", fn := fun _ => fun
  | [d1, d2] => { results := [.lit (.bool true)], args := [d1, d2] }
  | _ => none }
def textFoundRow : OpenClaim := { program := "ytilmhlblilmcfaa", sum := "2a333dd4ed60a016804e330acc33d1ee00ded2bea752c8497cc6a908b4b6ccae", func := "krait/kraitlaw09.TextFound", spec := "textFound", inPlace := ["internal/bytealg.IndexByteString", "internal/bytealg.IndexString", "internal/abi.NoEscape", "internal/bytealg.MakeNoZero"], unfollowed := true, recurses := true, named := ["internal/bytealg.MaxLen"], apart := false }
def TextFoundSaid : Prop := textFoundRow.holds Try.pinned (OpenSpec.ofChange textFoundSpec)

/-- ITS FALSE NEIGHBOUR: 'it returns false'. Refute it at one input. -/
def textFoundWrong : ChangeSpec := { name := "textFound", fn := fun _ => fun
  | [d1, d2] => { results := [.lit (.bool false)], args := [d1, d2] }
  | _ => none }
def TextFoundWrongFalsely : Prop := textFoundRow.holds Try.pinned (OpenSpec.ofChange textFoundWrong)

/-- 'kraitlaw09.TextBounds': WHATEVER THE INPUT: true; the input reads as it did. -/
def textBoundsSpec : ChangeSpec := { name := "textBounds", fn := fun _ => fun
  | [d1, d2, d3] => { results := [.lit (.bool true)], args := [d1, d2, d3] }
  | _ => none }
def textBoundsRow : OpenClaim := { program := "ytilmhlblilmcfaa", sum := "2a333dd4ed60a016804e330acc33d1ee00ded2bea752c8497cc6a908b4b6ccae", func := "krait/kraitlaw09.TextBounds", spec := "textBounds", inPlace := ["internal/abi.NoEscape", "internal/bytealg.MakeNoZero", "internal/bytealg.IndexByteString", "internal/bytealg.IndexString"], unfollowed := true, recurses := true, named := ["internal/bytealg.MaxLen"], apart := false }
def TextBoundsSaid : Prop := textBoundsRow.holds Try.pinned (OpenSpec.ofChange textBoundsSpec)

/-- ITS FALSE NEIGHBOUR: 'it returns false'. Refute it at one input. -/
def textBoundsWrong : ChangeSpec := { name := "textBounds", fn := fun _ => fun
  | [d1, d2, d3] => { results := [.lit (.bool false)], args := [d1, d2, d3] }
  | _ => none }
def TextBoundsWrongFalsely : Prop := textBoundsRow.holds Try.pinned (OpenSpec.ofChange textBoundsWrong)

/-- 'kraitlaw09.TextTwice': WHATEVER THE INPUT: true; the input reads as it did. -/
def textTwiceSpec : ChangeSpec := { name := "textTwice", fn := fun _ => fun
  | [d1, d2, d3] => { results := [.lit (.bool true)], args := [d1, d2, d3] }
  | _ => none }
def textTwiceRow : OpenClaim := { program := "ytilmhlblilmcfaa", sum := "2a333dd4ed60a016804e330acc33d1ee00ded2bea752c8497cc6a908b4b6ccae", func := "krait/kraitlaw09.TextTwice", spec := "textTwice", inPlace := ["internal/abi.NoEscape", "internal/bytealg.MakeNoZero", "internal/bytealg.IndexByteString", "internal/bytealg.IndexString"], unfollowed := true, recurses := true, named := ["internal/bytealg.MaxLen"], apart := false }
def TextTwiceSaid : Prop := textTwiceRow.holds Try.pinned (OpenSpec.ofChange textTwiceSpec)

/-- ITS FALSE NEIGHBOUR: 'it returns false'. Refute it at one input. -/
def textTwiceWrong : ChangeSpec := { name := "textTwice", fn := fun _ => fun
  | [d1, d2, d3] => { results := [.lit (.bool false)], args := [d1, d2, d3] }
  | _ => none }
def TextTwiceWrongFalsely : Prop := textTwiceRow.holds Try.pinned (OpenSpec.ofChange textTwiceWrong)

/- THE SECOND FORM. 'bulk': how many values and letters a reading holds, each counted each time it is reached (what is shared counts as often as it is met; a slice's spare places count too). A statement '..UptoSaid' is the law's where the arguments, and the package variables that the reading takes, are together of bulk at most 1048576: NARROWER than '..Said'. Prove '..Said' where nothing that the law and all that it calls make is longer than what came in: it says more and counts as full. Else prove '..UptoSaid'. A law counts once. -/
mutual
def uptoBulk {H : Type} : DataW H → Nat
  | .lit (.string bytes) => bytes.length + 1
  | .lit _ => 1
  | .nil => 1
  | .ptr d => uptoBulk d + 1
  | .slice elems spare => uptoBulkAll elems + uptoBulkAll spare + 1
  | .agg parts => uptoBulkAll parts + 1
  | .iface _ d => uptoBulk d + 1
  | .map entries => uptoBulkEntries entries + 1
  | .held _ => 1
def uptoBulkAll {H : Type} : List (DataW H) → Nat
  | [] => 0
  | d :: r => uptoBulk d + uptoBulkAll r
def uptoBulkEntries {H : Type} : List (Lit × DataW H) → Nat
  | [] => 0
  | x :: r => uptoBulkEntry x + uptoBulkEntries r
def uptoBulkEntry {H : Type} : Lit × DataW H → Nat
  | (.string bytes, d) => bytes.length + uptoBulk d + 1
  | (_, d) => uptoBulk d + 1
 end
def uptoSmall : (H : Type) → List (DataW H) → Bool := fun _ ds => decide (uptoBulkAll ds ≤ 1048576)
def OpenSpec.upto (s : _root_.Go.ChangeSpec) : _root_.Go.OpenSpec := { _root_.Go.OpenSpec.ofChange s with cond := some uptoSmall }

/-- 'kraitlaw09.TextJoins', WHERE WHAT IT READS IS OF BULK AT MOST 1048576: true; the input reads as it did. -/
def textJoinsUptoRow : OpenClaim := { program := "ytilmhlblilmcfaa", sum := "2a333dd4ed60a016804e330acc33d1ee00ded2bea752c8497cc6a908b4b6ccae", func := "krait/kraitlaw09.TextJoins", spec := "textJoins", inPlace := ["internal/abi.NoEscape", "internal/bytealg.MakeNoZero", "internal/bytealg.IndexByteString", "internal/bytealg.IndexString"], unfollowed := true, recurses := true, named := ["internal/bytealg.MaxLen"], apart := false, narrowed := true }
def TextJoinsUptoSaid : Prop := textJoinsUptoRow.holds Try.pinned (OpenSpec.upto textJoinsSpec)

/-- 'kraitlaw09.TextCuts', WHERE WHAT IT READS IS OF BULK AT MOST 1048576: true; the input reads as it did. -/
def textCutsUptoRow : OpenClaim := { program := "ytilmhlblilmcfaa", sum := "2a333dd4ed60a016804e330acc33d1ee00ded2bea752c8497cc6a908b4b6ccae", func := "krait/kraitlaw09.TextCuts", spec := "textCuts", inPlace := ["internal/abi.NoEscape", "internal/bytealg.MakeNoZero", "internal/bytealg.IndexByteString", "internal/bytealg.IndexString"], unfollowed := true, recurses := true, named := ["internal/bytealg.MaxLen"], apart := false, narrowed := true }
def TextCutsUptoSaid : Prop := textCutsUptoRow.holds Try.pinned (OpenSpec.upto textCutsSpec)

/-- 'kraitlaw09.TextLists', WHERE WHAT IT READS IS OF BULK AT MOST 1048576: true; the input reads as it did. -/
def textListsUptoRow : OpenClaim := { program := "ytilmhlblilmcfaa", sum := "2a333dd4ed60a016804e330acc33d1ee00ded2bea752c8497cc6a908b4b6ccae", func := "krait/kraitlaw09.TextLists", spec := "textLists", inPlace := ["internal/abi.NoEscape", "internal/bytealg.MakeNoZero", "internal/bytealg.IndexByteString", "internal/bytealg.IndexString"], unfollowed := true, recurses := true, named := ["internal/bytealg.MaxLen"], apart := false, narrowed := true }
def TextListsUptoSaid : Prop := textListsUptoRow.holds Try.pinned (OpenSpec.upto textListsSpec)

/-- 'kraitlaw09.TextSplits', WHERE WHAT IT READS IS OF BULK AT MOST 1048576: true; the input reads as it did. -/
def textSplitsUptoRow : OpenClaim := { program := "ytilmhlblilmcfaa", sum := "2a333dd4ed60a016804e330acc33d1ee00ded2bea752c8497cc6a908b4b6ccae", func := "krait/kraitlaw09.TextSplits", spec := "textSplits", inPlace := ["internal/bytealg.IndexByteString", "internal/bytealg.IndexString", "internal/abi.NoEscape", "internal/bytealg.MakeNoZero"], unfollowed := true, recurses := true, named := ["internal/bytealg.MaxLen"], apart := false, narrowed := true }
def TextSplitsUptoSaid : Prop := textSplitsUptoRow.holds Try.pinned (OpenSpec.upto textSplitsSpec)

/-- 'kraitlaw09.TextOrder', WHERE WHAT IT READS IS OF BULK AT MOST 1048576: true; the input reads as it did. -/
def textOrderUptoRow : OpenClaim := { program := "ytilmhlblilmcfaa", sum := "2a333dd4ed60a016804e330acc33d1ee00ded2bea752c8497cc6a908b4b6ccae", func := "krait/kraitlaw09.TextOrder", spec := "textOrder", inPlace := ["internal/abi.NoEscape", "internal/bytealg.MakeNoZero", "internal/bytealg.IndexByteString", "internal/bytealg.IndexString"], unfollowed := true, recurses := true, named := ["internal/bytealg.MaxLen"], apart := false, narrowed := true }
def TextOrderUptoSaid : Prop := textOrderUptoRow.holds Try.pinned (OpenSpec.upto textOrderSpec)

/-- 'kraitlaw09.TextBack', WHERE WHAT IT READS IS OF BULK AT MOST 1048576: true; the input reads as it did. -/
def textBackUptoRow : OpenClaim := { program := "ytilmhlblilmcfaa", sum := "2a333dd4ed60a016804e330acc33d1ee00ded2bea752c8497cc6a908b4b6ccae", func := "krait/kraitlaw09.TextBack", spec := "textBack", inPlace := ["internal/bytealg.IndexByteString", "internal/bytealg.IndexString", "internal/abi.NoEscape", "internal/bytealg.MakeNoZero"], unfollowed := true, recurses := true, named := ["internal/bytealg.MaxLen"], apart := false, narrowed := true }
def TextBackUptoSaid : Prop := textBackUptoRow.holds Try.pinned (OpenSpec.upto textBackSpec)

/-- 'kraitlaw09.TextWhole', WHERE WHAT IT READS IS OF BULK AT MOST 1048576: true; the input reads as it did. -/
def textWholeUptoRow : OpenClaim := { program := "ytilmhlblilmcfaa", sum := "2a333dd4ed60a016804e330acc33d1ee00ded2bea752c8497cc6a908b4b6ccae", func := "krait/kraitlaw09.TextWhole", spec := "textWhole", inPlace := ["internal/abi.NoEscape", "internal/bytealg.MakeNoZero", "internal/bytealg.IndexByteString", "internal/bytealg.IndexString"], unfollowed := true, recurses := true, named := ["internal/bytealg.MaxLen"], apart := false, narrowed := true }
def TextWholeUptoSaid : Prop := textWholeUptoRow.holds Try.pinned (OpenSpec.upto textWholeSpec)

/-- 'kraitlaw09.TextFound', WHERE WHAT IT READS IS OF BULK AT MOST 1048576: true; the input reads as it did. -/
def textFoundUptoRow : OpenClaim := { program := "ytilmhlblilmcfaa", sum := "2a333dd4ed60a016804e330acc33d1ee00ded2bea752c8497cc6a908b4b6ccae", func := "krait/kraitlaw09.TextFound", spec := "textFound", inPlace := ["internal/bytealg.IndexByteString", "internal/bytealg.IndexString", "internal/abi.NoEscape", "internal/bytealg.MakeNoZero"], unfollowed := true, recurses := true, named := ["internal/bytealg.MaxLen"], apart := false, narrowed := true }
def TextFoundUptoSaid : Prop := textFoundUptoRow.holds Try.pinned (OpenSpec.upto textFoundSpec)

/-- 'kraitlaw09.TextBounds', WHERE WHAT IT READS IS OF BULK AT MOST 1048576: true; the input reads as it did. -/
def textBoundsUptoRow : OpenClaim := { program := "ytilmhlblilmcfaa", sum := "2a333dd4ed60a016804e330acc33d1ee00ded2bea752c8497cc6a908b4b6ccae", func := "krait/kraitlaw09.TextBounds", spec := "textBounds", inPlace := ["internal/abi.NoEscape", "internal/bytealg.MakeNoZero", "internal/bytealg.IndexByteString", "internal/bytealg.IndexString"], unfollowed := true, recurses := true, named := ["internal/bytealg.MaxLen"], apart := false, narrowed := true }
def TextBoundsUptoSaid : Prop := textBoundsUptoRow.holds Try.pinned (OpenSpec.upto textBoundsSpec)

/-- 'kraitlaw09.TextTwice', WHERE WHAT IT READS IS OF BULK AT MOST 1048576: true; the input reads as it did. -/
def textTwiceUptoRow : OpenClaim := { program := "ytilmhlblilmcfaa", sum := "2a333dd4ed60a016804e330acc33d1ee00ded2bea752c8497cc6a908b4b6ccae", func := "krait/kraitlaw09.TextTwice", spec := "textTwice", inPlace := ["internal/abi.NoEscape", "internal/bytealg.MakeNoZero", "internal/bytealg.IndexByteString", "internal/bytealg.IndexString"], unfollowed := true, recurses := true, named := ["internal/bytealg.MaxLen"], apart := false, narrowed := true }
def TextTwiceUptoSaid : Prop := textTwiceUptoRow.holds Try.pinned (OpenSpec.upto textTwiceSpec)

end Rows
end Go.Proofs.Ytilmhlblilmcfaa
