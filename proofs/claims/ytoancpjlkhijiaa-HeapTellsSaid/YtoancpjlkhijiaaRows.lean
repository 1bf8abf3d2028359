/-
  No cell of these rows narrows 'for every input' (looked for: loops, veiled, ifaces, maps, wideKeys, modest, calm, conditions, laid).
  DERIVED. THE GIVEN ROWS OF THIS SEAT. 9 by the template 'for every input the law returns true; each argument reads behind the call as it read before'; 0 by the template 'total and deterministic' (their statements: YtoancpjlkhijiaaTotals.lean).
  GIVEN WITH THE SEED: the statements are not yours to turn. If you find one false, say at which input.
  Laid BY PROGRAM, IN A SANDBOX (cutbox-rows.mjs): the forced cells as the released guide's own fill.sh prints them over the translation 88c83a06eb396ed6… (all of the seat's roots in one cut). By AI agents, Wed Nov 11 2026. No macro, syntax, notation, axiom, sorry.
-/
import Derived.Test.YtoancpjlkhijiaaChecked
import GoSem.Claim
import GoSem.ClaimJoined
import GoSem.ClaimMapViews
import Derived.JoinedTies
import Derived.KernelRfl
namespace Go.Proofs.Ytoancpjlkhijiaa
/- THE CELL 'sum', in the pinned program and in every row, IS THE sha256 OF THE DUMP (.gsa) THAT YtoancpjlkhijiaaProg.lean LOADS. Nothing in Lean hashes anything: it is a label: what it is worth is what the hold of that sum in a sandbox is worth. -/
noncomputable def Try.pinned : Pinned := { name := "ytoancpjlkhijiaa", sum := "88c83a06eb396ed6eb168a8e1d4f4386c7c1da434d20022de538496f07c3369b", checked := Try.checked }
namespace Rows
def none {H : Type} : Left H := { results := [], args := [] }

/-- 'kraitlaw12.HeapRows': WHATEVER THE INPUT: true; the input reads as it did. -/
def heapRowsSpec : ChangeSpec := { name := "heapRows", fn := fun _ => fun
  | [d1, d2, d3, d4] => { results := [.lit (.bool true)], args := [d1, d2, d3, d4] }
  | _ => none }
def heapRowsRow : OpenClaim := { program := "ytoancpjlkhijiaa", sum := "88c83a06eb396ed6eb168a8e1d4f4386c7c1da434d20022de538496f07c3369b", func := "krait/kraitlaw12.HeapRows", spec := "heapRows", unfollowed := true, recurses := true, plainKeys := false, apart := false }
def HeapRowsSaid : Prop := heapRowsRow.holds Try.pinned (OpenSpec.ofChange heapRowsSpec)

/-- ITS FALSE NEIGHBOUR: 'it returns false'. Refute it at one input. -/
def heapRowsWrong : ChangeSpec := { name := "heapRows", fn := fun _ => fun
  | [d1, d2, d3, d4] => { results := [.lit (.bool false)], args := [d1, d2, d3, d4] }
  | _ => none }
def HeapRowsWrongFalsely : Prop := heapRowsRow.holds Try.pinned (OpenSpec.ofChange heapRowsWrong)

/-- 'kraitlaw12.HeapKeeps': WHATEVER THE INPUT: true; the input reads as it did. -/
def heapKeepsSpec : ChangeSpec := { name := "heapKeeps", fn := fun _ => fun
  | [d1, d2] => { results := [.lit (.bool true)], args := [d1, d2] }
  | _ => none }
def heapKeepsRow : OpenClaim := { program := "ytoancpjlkhijiaa", sum := "88c83a06eb396ed6eb168a8e1d4f4386c7c1da434d20022de538496f07c3369b", func := "krait/kraitlaw12.HeapKeeps", spec := "heapKeeps", unfollowed := true, recurses := true, plainKeys := false, apart := false }
def HeapKeepsSaid : Prop := heapKeepsRow.holds Try.pinned (OpenSpec.ofChange heapKeepsSpec)

/-- ITS FALSE NEIGHBOUR: 'it returns false'. Refute it at one input. -/
def heapKeepsWrong : ChangeSpec := { name := "heapKeeps", fn := fun _ => fun
  | [d1, d2] => { results := [.lit (.bool false)], args := [d1, d2] }
  | _ => none }
def HeapKeepsWrongFalsely : Prop := heapKeepsRow.holds Try.pinned (OpenSpec.ofChange heapKeepsWrong)

/-- 'kraitlaw12.HeapTells': WHATEVER THE INPUT: true; the input reads as it did. -/
def heapTellsSpec : ChangeSpec := { name := "heapTells", fn := fun _ => fun
  | [d1, d2, d3, d4] => { results := [.lit (.bool true)], args := [d1, d2, d3, d4] }
  | _ => none }
def heapTellsRow : OpenClaim := { program := "ytoancpjlkhijiaa", sum := "88c83a06eb396ed6eb168a8e1d4f4386c7c1da434d20022de538496f07c3369b", func := "krait/kraitlaw12.HeapTells", spec := "heapTells", unfollowed := true, recurses := true, plainKeys := false, apart := false }
def HeapTellsSaid : Prop := heapTellsRow.holds Try.pinned (OpenSpec.ofChange heapTellsSpec)

/-- ITS FALSE NEIGHBOUR: 'it returns false'. Refute it at one input. -/
def heapTellsWrong : ChangeSpec := { name := "heapTells", fn := fun _ => fun
  | [d1, d2, d3, d4] => { results := [.lit (.bool false)], args := [d1, d2, d3, d4] }
  | _ => none }
def HeapTellsWrongFalsely : Prop := heapTellsRow.holds Try.pinned (OpenSpec.ofChange heapTellsWrong)

/-- 'kraitlaw12.HeapCounts': WHATEVER THE INPUT: true; the input reads as it did. -/
def heapCountsSpec : ChangeSpec := { name := "heapCounts", fn := fun _ => fun
  | [d] => { results := [.lit (.bool true)], args := [d] }
  | _ => none }
def heapCountsRow : OpenClaim := { program := "ytoancpjlkhijiaa", sum := "88c83a06eb396ed6eb168a8e1d4f4386c7c1da434d20022de538496f07c3369b", func := "krait/kraitlaw12.HeapCounts", spec := "heapCounts", unfollowed := true, recurses := true, plainKeys := false, apart := false }
def HeapCountsSaid : Prop := heapCountsRow.holds Try.pinned (OpenSpec.ofChange heapCountsSpec)

/-- ITS FALSE NEIGHBOUR: 'it returns false'. Refute it at one input. -/
def heapCountsWrong : ChangeSpec := { name := "heapCounts", fn := fun _ => fun
  | [d] => { results := [.lit (.bool false)], args := [d] }
  | _ => none }
def HeapCountsWrongFalsely : Prop := heapCountsRow.holds Try.pinned (OpenSpec.ofChange heapCountsWrong)

/-- 'kraitlaw12.HeapSweeps': WHATEVER THE INPUT: true; the input reads as it did. -/
def heapSweepsSpec : ChangeSpec := { name := "heapSweeps", fn := fun _ => fun
  | [d1, d2] => { results := [.lit (.bool true)], args := [d1, d2] }
  | _ => none }
def heapSweepsRow : OpenClaim := { program := "ytoancpjlkhijiaa", sum := "88c83a06eb396ed6eb168a8e1d4f4386c7c1da434d20022de538496f07c3369b", func := "krait/kraitlaw12.HeapSweeps", spec := "heapSweeps", unfollowed := true, recurses := true, plainKeys := false, apart := false }
def HeapSweepsSaid : Prop := heapSweepsRow.holds Try.pinned (OpenSpec.ofChange heapSweepsSpec)

/-- ITS FALSE NEIGHBOUR: 'it returns false'. Refute it at one input. -/
def heapSweepsWrong : ChangeSpec := { name := "heapSweeps", fn := fun _ => fun
  | [d1, d2] => { results := [.lit (.bool false)], args := [d1, d2] }
  | _ => none }
def HeapSweepsWrongFalsely : Prop := heapSweepsRow.holds Try.pinned (OpenSpec.ofChange heapSweepsWrong)

/-- 'kraitlaw12.HeapFrees': WHATEVER THE INPUT: true; the input reads as it did. -/
def heapFreesSpec : ChangeSpec := { name := "heapFrees", fn := fun _ => fun
  | [d1, d2] => { results := [.lit (.bool true)], args := [d1, d2] }
  | _ => none }
def heapFreesRow : OpenClaim := { program := "ytoancpjlkhijiaa", sum := "88c83a06eb396ed6eb168a8e1d4f4386c7c1da434d20022de538496f07c3369b", func := "krait/kraitlaw12.HeapFrees", spec := "heapFrees", unfollowed := true, recurses := true, plainKeys := false, apart := false }
def HeapFreesSaid : Prop := heapFreesRow.holds Try.pinned (OpenSpec.ofChange heapFreesSpec)

/-- ITS FALSE NEIGHBOUR: 'it returns false'. Refute it at one input. -/
def heapFreesWrong : ChangeSpec := { name := "heapFrees", fn := fun _ => fun
  | [d1, d2] => { results := [.lit (.bool false)], args := [d1, d2] }
  | _ => none }
def HeapFreesWrongFalsely : Prop := heapFreesRow.holds Try.pinned (OpenSpec.ofChange heapFreesWrong)

/-- 'kraitlaw12.HeapNew': WHATEVER THE INPUT: true; the input reads as it did. -/
def heapNewSpec : ChangeSpec := { name := "heapNew", fn := fun _ => fun
  | [d] => { results := [.lit (.bool true)], args := [d] }
  | _ => none }
def heapNewRow : OpenClaim := { program := "ytoancpjlkhijiaa", sum := "88c83a06eb396ed6eb168a8e1d4f4386c7c1da434d20022de538496f07c3369b", func := "krait/kraitlaw12.HeapNew", spec := "heapNew", unfollowed := true, recurses := true, plainKeys := false, apart := false }
def HeapNewSaid : Prop := heapNewRow.holds Try.pinned (OpenSpec.ofChange heapNewSpec)

/-- ITS FALSE NEIGHBOUR: 'it returns false'. Refute it at one input. -/
def heapNewWrong : ChangeSpec := { name := "heapNew", fn := fun _ => fun
  | [d] => { results := [.lit (.bool false)], args := [d] }
  | _ => none }
def HeapNewWrongFalsely : Prop := heapNewRow.holds Try.pinned (OpenSpec.ofChange heapNewWrong)

/-- 'kraitlaw12.HeapAlone': WHATEVER THE INPUT: true; the input reads as it did. -/
def heapAloneSpec : ChangeSpec := { name := "heapAlone", fn := fun _ => fun
  | [d1, d2] => { results := [.lit (.bool true)], args := [d1, d2] }
  | _ => none }
def heapAloneRow : OpenClaim := { program := "ytoancpjlkhijiaa", sum := "88c83a06eb396ed6eb168a8e1d4f4386c7c1da434d20022de538496f07c3369b", func := "krait/kraitlaw12.HeapAlone", spec := "heapAlone", unfollowed := true, recurses := true, plainKeys := false, apart := false }
def HeapAloneSaid : Prop := heapAloneRow.holds Try.pinned (OpenSpec.ofChange heapAloneSpec)

/-- ITS FALSE NEIGHBOUR: 'it returns false'. Refute it at one input. -/
def heapAloneWrong : ChangeSpec := { name := "heapAlone", fn := fun _ => fun
  | [d1, d2] => { results := [.lit (.bool false)], args := [d1, d2] }
  | _ => none }
def HeapAloneWrongFalsely : Prop := heapAloneRow.holds Try.pinned (OpenSpec.ofChange heapAloneWrong)

/-- 'kraitlaw12.HeapNil': WHATEVER THE INPUT: true; the input reads as it did. -/
def heapNilSpec : ChangeSpec := { name := "heapNil", fn := fun _ => fun
  | [d] => { results := [.lit (.bool true)], args := [d] }
  | _ => none }
def heapNilRow : OpenClaim := { program := "ytoancpjlkhijiaa", sum := "88c83a06eb396ed6eb168a8e1d4f4386c7c1da434d20022de538496f07c3369b", func := "krait/kraitlaw12.HeapNil", spec := "heapNil", unfollowed := true, recurses := true, plainKeys := false, apart := false }
def HeapNilSaid : Prop := heapNilRow.holds Try.pinned (OpenSpec.ofChange heapNilSpec)

/-- ITS FALSE NEIGHBOUR: 'it returns false'. Refute it at one input. -/
def heapNilWrong : ChangeSpec := { name := "heapNil", fn := fun _ => fun
  | [d] => { results := [.lit (.bool false)], args := [d] }
  | _ => none }
def HeapNilWrongFalsely : Prop := heapNilRow.holds Try.pinned (OpenSpec.ofChange heapNilWrong)

/- THE SECOND FORM. 'bulk': how many values and letters a reading holds, each counted each time it is reached (what is shared counts as often as it is met; a slice's spare places count too). A statement '..UptoSaid' is the law's where the arguments, and the package variables that the reading takes, are together of bulk at most 1048576: NARROWER than '..Said'. Prove '..Said' where nothing that the law and all that it calls make is longer than what came in: it says more and counts as full. Else prove '..UptoSaid'. A law counts once. -/
mutual
def uptoBulk {H : Type} : DataW H → Nat
  | .lit (.string bytes) => bytes.length + 1
  | .lit _ => 1
  | .nil => 1
  | .ptr d => uptoBulk d + 1
  | .slice elems spare => uptoBulkAll elems + uptoBulkAll spare + 1
  | .agg parts => uptoBulkAll parts + 1
  | .iface _ d => uptoBulk d + 1
  | .map entries => uptoBulkEntries entries + 1
  | .held _ => 1
def uptoBulkAll {H : Type} : List (DataW H) → Nat
  | [] => 0
  | d :: r => uptoBulk d + uptoBulkAll r
def uptoBulkEntries {H : Type} : List (Lit × DataW H) → Nat
  | [] => 0
  | x :: r => uptoBulkEntry x + uptoBulkEntries r
def uptoBulkEntry {H : Type} : Lit × DataW H → Nat
  | (.string bytes, d) => bytes.length + uptoBulk d + 1
  | (_, d) => uptoBulk d + 1
 end
def uptoSmall : (H : Type) → List (DataW H) → Bool := fun _ ds => decide (uptoBulkAll ds ≤ 1048576)
def OpenSpec.upto (s : _root_.Go.ChangeSpec) : _root_.Go.OpenSpec := { _root_.Go.OpenSpec.ofChange s with cond := some uptoSmall }

/-- 'kraitlaw12.HeapRows', WHERE WHAT IT READS IS OF BULK AT MOST 1048576: true; the input reads as it did. -/
def heapRowsUptoRow : OpenClaim := { program := "ytoancpjlkhijiaa", sum := "88c83a06eb396ed6eb168a8e1d4f4386c7c1da434d20022de538496f07c3369b", func := "krait/kraitlaw12.HeapRows", spec := "heapRows", unfollowed := true, recurses := true, plainKeys := false, apart := false, narrowed := true }
def HeapRowsUptoSaid : Prop := heapRowsUptoRow.holds Try.pinned (OpenSpec.upto heapRowsSpec)

/-- 'kraitlaw12.HeapKeeps', WHERE WHAT IT READS IS OF BULK AT MOST 1048576: true; the input reads as it did. -/
def heapKeepsUptoRow : OpenClaim := { program := "ytoancpjlkhijiaa", sum := "88c83a06eb396ed6eb168a8e1d4f4386c7c1da434d20022de538496f07c3369b", func := "krait/kraitlaw12.HeapKeeps", spec := "heapKeeps", unfollowed := true, recurses := true, plainKeys := false, apart := false, narrowed := true }
def HeapKeepsUptoSaid : Prop := heapKeepsUptoRow.holds Try.pinned (OpenSpec.upto heapKeepsSpec)

/-- 'kraitlaw12.HeapTells', WHERE WHAT IT READS IS OF BULK AT MOST 1048576: true; the input reads as it did. -/
def heapTellsUptoRow : OpenClaim := { program := "ytoancpjlkhijiaa", sum := "88c83a06eb396ed6eb168a8e1d4f4386c7c1da434d20022de538496f07c3369b", func := "krait/kraitlaw12.HeapTells", spec := "heapTells", unfollowed := true, recurses := true, plainKeys := false, apart := false, narrowed := true }
def HeapTellsUptoSaid : Prop := heapTellsUptoRow.holds Try.pinned (OpenSpec.upto heapTellsSpec)

/-- 'kraitlaw12.HeapCounts', WHERE WHAT IT READS IS OF BULK AT MOST 1048576: true; the input reads as it did. -/
def heapCountsUptoRow : OpenClaim := { program := "ytoancpjlkhijiaa", sum := "88c83a06eb396ed6eb168a8e1d4f4386c7c1da434d20022de538496f07c3369b", func := "krait/kraitlaw12.HeapCounts", spec := "heapCounts", unfollowed := true, recurses := true, plainKeys := false, apart := false, narrowed := true }
def HeapCountsUptoSaid : Prop := heapCountsUptoRow.holds Try.pinned (OpenSpec.upto heapCountsSpec)

/-- 'kraitlaw12.HeapSweeps', WHERE WHAT IT READS IS OF BULK AT MOST 1048576: true; the input reads as it did. -/
def heapSweepsUptoRow : OpenClaim := { program := "ytoancpjlkhijiaa", sum := "88c83a06eb396ed6eb168a8e1d4f4386c7c1da434d20022de538496f07c3369b", func := "krait/kraitlaw12.HeapSweeps", spec := "heapSweeps", unfollowed := true, recurses := true, plainKeys := false, apart := false, narrowed := true }
def HeapSweepsUptoSaid : Prop := heapSweepsUptoRow.holds Try.pinned (OpenSpec.upto heapSweepsSpec)

/-- 'kraitlaw12.HeapFrees', WHERE WHAT IT READS IS OF BULK AT MOST 1048576: true; the input reads as it did. -/
def heapFreesUptoRow : OpenClaim := { program := "ytoancpjlkhijiaa", sum := "88c83a06eb396ed6eb168a8e1d4f4386c7c1da434d20022de538496f07c3369b", func := "krait/kraitlaw12.HeapFrees", spec := "heapFrees", unfollowed := true, recurses := true, plainKeys := false, apart := false, narrowed := true }
def HeapFreesUptoSaid : Prop := heapFreesUptoRow.holds Try.pinned (OpenSpec.upto heapFreesSpec)

/-- 'kraitlaw12.HeapNew', WHERE WHAT IT READS IS OF BULK AT MOST 1048576: true; the input reads as it did. -/
def heapNewUptoRow : OpenClaim := { program := "ytoancpjlkhijiaa", sum := "88c83a06eb396ed6eb168a8e1d4f4386c7c1da434d20022de538496f07c3369b", func := "krait/kraitlaw12.HeapNew", spec := "heapNew", unfollowed := true, recurses := true, plainKeys := false, apart := false, narrowed := true }
def HeapNewUptoSaid : Prop := heapNewUptoRow.holds Try.pinned (OpenSpec.upto heapNewSpec)

/-- 'kraitlaw12.HeapAlone', WHERE WHAT IT READS IS OF BULK AT MOST 1048576: true; the input reads as it did. -/
def heapAloneUptoRow : OpenClaim := { program := "ytoancpjlkhijiaa", sum := "88c83a06eb396ed6eb168a8e1d4f4386c7c1da434d20022de538496f07c3369b", func := "krait/kraitlaw12.HeapAlone", spec := "heapAlone", unfollowed := true, recurses := true, plainKeys := false, apart := false, narrowed := true }
def HeapAloneUptoSaid : Prop := heapAloneUptoRow.holds Try.pinned (OpenSpec.upto heapAloneSpec)

/-- 'kraitlaw12.HeapNil', WHERE WHAT IT READS IS OF BULK AT MOST 1048576: true; the input reads as it did. -/
def heapNilUptoRow : OpenClaim := { program := "ytoancpjlkhijiaa", sum := "88c83a06eb396ed6eb168a8e1d4f4386c7c1da434d20022de538496f07c3369b", func := "krait/kraitlaw12.HeapNil", spec := "heapNil", unfollowed := true, recurses := true, plainKeys := false, apart := false, narrowed := true }
def HeapNilUptoSaid : Prop := heapNilUptoRow.holds Try.pinned (OpenSpec.upto heapNilSpec)

end Rows
end Go.Proofs.Ytoancpjlkhijiaa
