/-
  No cell of these rows narrows 'for every input' (looked for: loops, veiled, ifaces, maps, wideKeys, modest, calm, conditions, laid).
  DERIVED. THE GIVEN ROWS OF THIS SEAT. 4 by the template 'for every input the law returns true; each argument reads behind the call as it read before'; 0 by the template 'total and deterministic' (their statements: YtijlebhoapdfnaaGreatTotals.lean).
  GIVEN WITH THE SEED: the statements are not yours to turn. If you find one false, say at which input.
  Laid BY PROGRAM, IN A SANDBOX (cutbox-rows.mjs): the forced cells as the released guide's own fill.sh prints them over the translation 4e897e4a596f7cd4… (all of the seat's roots in one cut). By AI agents, Wed Nov 11 2026. No macro, syntax, notation, axiom, sorry.
-/
import Derived.Test.YtijlebhoapdfnaaGreatChecked
import GoSem.Claim
import GoSem.ClaimJoined
import GoSem.ClaimMapViews
import Derived.JoinedTies
import Derived.KernelRfl
namespace Go.Proofs.YtijlebhoapdfnaaGreat
/- THE CELL 'sum', in the pinned program and in every row, IS THE sha256 OF THE DUMP (.gsa) THAT YtijlebhoapdfnaaGreatProg.lean LOADS. Nothing in Lean hashes anything: it is a label: what it is worth is what the hold of that sum in a sandbox is worth. -/
noncomputable def Tryz.pinned : Pinned := { name := "ytijlebhoapdfnaagreat", sum := "4e897e4a596f7cd47ee149119e768dc946aba5a4acb405058c3f6d22ffa912ca", checked := Tryz.checked }
namespace Rows
def none {H : Type} : Left H := { results := [], args := [] }

/-- 'kraitlaw16.OperateBin': WHATEVER THE INPUT: true; the input reads as it did. -/
def operateBinSpec : ChangeSpec := { name := "operateBin", fn := fun _ => fun
  | [d1, d2, d3] => { results := [.lit (.bool true)], args := [d1, d2, d3] }
  | _ => none }
def operateBinRow : OpenClaim := { program := "ytijlebhoapdfnaagreat", sum := "4e897e4a596f7cd47ee149119e768dc946aba5a4acb405058c3f6d22ffa912ca", func := "krait/kraitlaw16.OperateBin", spec := "operateBin", inPlace := ["internal/abi.NoEscape", "internal/bytealg.IndexByteString", "internal/bytealg.IndexString", "internal/bytealg.MakeNoZero"], unfollowed := true, recurses := true, named := ["internal/bytealg.MaxLen"], plainKeys := false, apart := false }
def OperateBinSaid : Prop := operateBinRow.holds Tryz.pinned (OpenSpec.ofChange operateBinSpec)

/-- ITS FALSE NEIGHBOUR: 'it returns false'. Refute it at one input. -/
def operateBinWrong : ChangeSpec := { name := "operateBin", fn := fun _ => fun
  | [d1, d2, d3] => { results := [.lit (.bool false)], args := [d1, d2, d3] }
  | _ => none }
def OperateBinWrongFalsely : Prop := operateBinRow.holds Tryz.pinned (OpenSpec.ofChange operateBinWrong)

/-- 'kraitlaw16.OperateIndex': WHATEVER THE INPUT: true; the input reads as it did. -/
def operateIndexSpec : ChangeSpec := { name := "operateIndex", fn := fun _ => fun
  | [d1, d2] => { results := [.lit (.bool true)], args := [d1, d2] }
  | _ => none }
def operateIndexRow : OpenClaim := { program := "ytijlebhoapdfnaagreat", sum := "4e897e4a596f7cd47ee149119e768dc946aba5a4acb405058c3f6d22ffa912ca", func := "krait/kraitlaw16.OperateIndex", spec := "operateIndex", inPlace := ["internal/abi.NoEscape", "internal/bytealg.IndexByteString", "internal/bytealg.IndexString", "internal/bytealg.MakeNoZero"], unfollowed := true, recurses := true, named := ["internal/bytealg.MaxLen"], plainKeys := false, apart := false }
def OperateIndexSaid : Prop := operateIndexRow.holds Tryz.pinned (OpenSpec.ofChange operateIndexSpec)

/-- ITS FALSE NEIGHBOUR: 'it returns false'. Refute it at one input. -/
def operateIndexWrong : ChangeSpec := { name := "operateIndex", fn := fun _ => fun
  | [d1, d2] => { results := [.lit (.bool false)], args := [d1, d2] }
  | _ => none }
def OperateIndexWrongFalsely : Prop := operateIndexRow.holds Tryz.pinned (OpenSpec.ofChange operateIndexWrong)

/-- 'kraitlaw16.OperateCmp': WHATEVER THE INPUT: true; the input reads as it did. -/
def operateCmpSpec : ChangeSpec := { name := "operateCmp", fn := fun _ => fun
  | [d1, d2, d3] => { results := [.lit (.bool true)], args := [d1, d2, d3] }
  | _ => none }
def operateCmpRow : OpenClaim := { program := "ytijlebhoapdfnaagreat", sum := "4e897e4a596f7cd47ee149119e768dc946aba5a4acb405058c3f6d22ffa912ca", func := "krait/kraitlaw16.OperateCmp", spec := "operateCmp", inPlace := ["internal/abi.NoEscape", "internal/bytealg.IndexByteString", "internal/bytealg.IndexString", "internal/bytealg.MakeNoZero"], unfollowed := true, recurses := true, named := ["internal/bytealg.MaxLen"], plainKeys := false, apart := false }
def OperateCmpSaid : Prop := operateCmpRow.holds Tryz.pinned (OpenSpec.ofChange operateCmpSpec)

/-- ITS FALSE NEIGHBOUR: 'it returns false'. Refute it at one input. -/
def operateCmpWrong : ChangeSpec := { name := "operateCmp", fn := fun _ => fun
  | [d1, d2, d3] => { results := [.lit (.bool false)], args := [d1, d2, d3] }
  | _ => none }
def OperateCmpWrongFalsely : Prop := operateCmpRow.holds Tryz.pinned (OpenSpec.ofChange operateCmpWrong)

/-- 'kraitlaw16.OperateRepr': WHATEVER THE INPUT: true; the input reads as it did. -/
def operateReprSpec : ChangeSpec := { name := "operateRepr", fn := fun _ => fun
  | [d1, d2] => { results := [.lit (.bool true)], args := [d1, d2] }
  | _ => none }
def operateReprRow : OpenClaim := { program := "ytijlebhoapdfnaagreat", sum := "4e897e4a596f7cd47ee149119e768dc946aba5a4acb405058c3f6d22ffa912ca", func := "krait/kraitlaw16.OperateRepr", spec := "operateRepr", inPlace := ["internal/abi.NoEscape", "internal/bytealg.IndexByteString", "internal/bytealg.IndexString", "internal/bytealg.MakeNoZero"], unfollowed := true, recurses := true, named := ["internal/bytealg.MaxLen"], plainKeys := false, apart := false }
def OperateReprSaid : Prop := operateReprRow.holds Tryz.pinned (OpenSpec.ofChange operateReprSpec)

/-- ITS FALSE NEIGHBOUR: 'it returns false'. Refute it at one input. -/
def operateReprWrong : ChangeSpec := { name := "operateRepr", fn := fun _ => fun
  | [d1, d2] => { results := [.lit (.bool false)], args := [d1, d2] }
  | _ => none }
def OperateReprWrongFalsely : Prop := operateReprRow.holds Tryz.pinned (OpenSpec.ofChange operateReprWrong)

/- THE SECOND FORM. 'bulk': how many values and letters a reading holds, each counted each time it is reached (what is shared counts as often as it is met; a slice's spare places count too). A statement '..UptoSaid' is the law's where the arguments, and the package variables that the reading takes, are together of bulk at most 1048576: NARROWER than '..Said'. Prove '..Said' where nothing that the law and all that it calls make is longer than what came in: it says more and counts as full. Else prove '..UptoSaid'. A law counts once. -/
mutual
def uptoBulk {H : Type} : DataW H → Nat
  | .lit (.string bytes) => bytes.length + 1
  | .lit _ => 1
  | .nil => 1
  | .ptr d => uptoBulk d + 1
  | .slice elems spare => uptoBulkAll elems + uptoBulkAll spare + 1
  | .agg parts => uptoBulkAll parts + 1
  | .iface _ d => uptoBulk d + 1
  | .map entries => uptoBulkEntries entries + 1
  | .held _ => 1
def uptoBulkAll {H : Type} : List (DataW H) → Nat
  | [] => 0
  | d :: r => uptoBulk d + uptoBulkAll r
def uptoBulkEntries {H : Type} : List (Lit × DataW H) → Nat
  | [] => 0
  | x :: r => uptoBulkEntry x + uptoBulkEntries r
def uptoBulkEntry {H : Type} : Lit × DataW H → Nat
  | (.string bytes, d) => bytes.length + uptoBulk d + 1
  | (_, d) => uptoBulk d + 1
 end
def uptoSmall : (H : Type) → List (DataW H) → Bool := fun _ ds => decide (uptoBulkAll ds ≤ 1048576)
def OpenSpec.upto (s : _root_.Go.ChangeSpec) : _root_.Go.OpenSpec := { _root_.Go.OpenSpec.ofChange s with cond := some uptoSmall }

/-- 'kraitlaw16.OperateBin', WHERE WHAT IT READS IS OF BULK AT MOST 1048576: true; the input reads as it did. -/
def operateBinUptoRow : OpenClaim := { program := "ytijlebhoapdfnaagreat", sum := "4e897e4a596f7cd47ee149119e768dc946aba5a4acb405058c3f6d22ffa912ca", func := "krait/kraitlaw16.OperateBin", spec := "operateBin", inPlace := ["internal/abi.NoEscape", "internal/bytealg.IndexByteString", "internal/bytealg.IndexString", "internal/bytealg.MakeNoZero"], unfollowed := true, recurses := true, named := ["internal/bytealg.MaxLen"], plainKeys := false, apart := false, narrowed := true }
def OperateBinUptoSaid : Prop := operateBinUptoRow.holds Tryz.pinned (OpenSpec.upto operateBinSpec)

/-- 'kraitlaw16.OperateIndex', WHERE WHAT IT READS IS OF BULK AT MOST 1048576: true; the input reads as it did. -/
def operateIndexUptoRow : OpenClaim := { program := "ytijlebhoapdfnaagreat", sum := "4e897e4a596f7cd47ee149119e768dc946aba5a4acb405058c3f6d22ffa912ca", func := "krait/kraitlaw16.OperateIndex", spec := "operateIndex", inPlace := ["internal/abi.NoEscape", "internal/bytealg.IndexByteString", "internal/bytealg.IndexString", "internal/bytealg.MakeNoZero"], unfollowed := true, recurses := true, named := ["internal/bytealg.MaxLen"], plainKeys := false, apart := false, narrowed := true }
def OperateIndexUptoSaid : Prop := operateIndexUptoRow.holds Tryz.pinned (OpenSpec.upto operateIndexSpec)

/-- 'kraitlaw16.OperateCmp', WHERE WHAT IT READS IS OF BULK AT MOST 1048576: true; the input reads as it did. -/
def operateCmpUptoRow : OpenClaim := { program := "ytijlebhoapdfnaagreat", sum := "4e897e4a596f7cd47ee149119e768dc946aba5a4acb405058c3f6d22ffa912ca", func := "krait/kraitlaw16.OperateCmp", spec := "operateCmp", inPlace := ["internal/abi.NoEscape", "internal/bytealg.IndexByteString", "internal/bytealg.IndexString", "internal/bytealg.MakeNoZero"], unfollowed := true, recurses := true, named := ["internal/bytealg.MaxLen"], plainKeys := false, apart := false, narrowed := true }
def OperateCmpUptoSaid : Prop := operateCmpUptoRow.holds Tryz.pinned (OpenSpec.upto operateCmpSpec)

/-- 'kraitlaw16.OperateRepr', WHERE WHAT IT READS IS OF BULK AT MOST 1048576: true; the input reads as it did. -/
def operateReprUptoRow : OpenClaim := { program := "ytijlebhoapdfnaagreat", sum := "4e897e4a596f7cd47ee149119e768dc946aba5a4acb405058c3f6d22ffa912ca", func := "krait/kraitlaw16.OperateRepr", spec := "operateRepr", inPlace := ["internal/abi.NoEscape", "internal/bytealg.IndexByteString", "internal/bytealg.IndexString", "internal/bytealg.MakeNoZero"], unfollowed := true, recurses := true, named := ["internal/bytealg.MaxLen"], plainKeys := false, apart := false, narrowed := true }
def OperateReprUptoSaid : Prop := operateReprUptoRow.holds Tryz.pinned (OpenSpec.upto operateReprSpec)

end Rows
end Go.Proofs.YtijlebhoapdfnaaGreat
