/-
  No cell of these rows narrows 'for every input' (looked for: loops, veiled, ifaces, maps, wideKeys, modest, calm, conditions, laid).
  DERIVED. THE GIVEN ROWS OF THIS SEAT. 10 by the template 'for every input the law returns true; each argument reads behind the call as it read before'; 0 by the template 'total and deterministic' (their statements: YtellmfimmghidaaGreatTotals.lean).
  GIVEN WITH THE SEED: the statements are not yours to turn. If you find one false, say at which input.
  Laid BY PROGRAM, IN A SANDBOX (cutbox-rows.mjs): the forced cells as the released guide's own fill.sh prints them over the translation 439ae548932494c6… (all of the seat's roots in one cut). By AI agents, Wed Nov 11 2026. No macro, syntax, notation, axiom, sorry.
-/
import Derived.Test.YtellmfimmghidaaGreatChecked
import GoSem.Claim
import GoSem.ClaimJoined
import GoSem.ClaimMapViews
import Derived.JoinedTies
import Derived.KernelRfl
namespace Go.Proofs.YtellmfimmghidaaGreat
/- THE CELL 'sum', in the pinned program and in every row, IS THE sha256 OF THE DUMP (.gsa) THAT YtellmfimmghidaaGreatProg.lean LOADS. Nothing in Lean hashes anything: it is a label: what it is worth is what the hold of that sum in a sandbox is worth. -/
noncomputable def Tryz.pinned : Pinned := { name := "ytellmfimmghidaagreat", sum := "439ae548932494c6ffd0bd2cb8e82f8a43241ed7ecb862ea884fab309e9c994c", checked := Tryz.checked }
namespace Rows
def none {H : Type} : Left H := { results := [], args := [] }

/-- 'kraitlaw16.OperateSums': WHATEVER THE INPUT: true; the input reads as it did. -/
def operateSumsSpec : ChangeSpec := { name := "operateSums", fn := fun _ => fun
  | [d1, d2, d3] => { results := [.lit (.bool true)], args := [d1, d2, d3] }
  | _ => none }
def operateSumsRow : OpenClaim := { program := "ytellmfimmghidaagreat", sum := "439ae548932494c6ffd0bd2cb8e82f8a43241ed7ecb862ea884fab309e9c994c", func := "krait/kraitlaw16.OperateSums", spec := "operateSums", inPlace := ["internal/abi.NoEscape", "internal/bytealg.IndexByteString", "internal/bytealg.IndexString", "internal/bytealg.MakeNoZero"], unfollowed := true, recurses := true, named := ["internal/bytealg.MaxLen"], plainKeys := false, apart := false }
def OperateSumsSaid : Prop := operateSumsRow.holds Tryz.pinned (OpenSpec.ofChange operateSumsSpec)

/-- ITS FALSE NEIGHBOUR: 'it returns false'. Refute it at one input. -/
def operateSumsWrong : ChangeSpec := { name := "operateSums", fn := fun _ => fun
  | [d1, d2, d3] => { results := [.lit (.bool false)], args := [d1, d2, d3] }
  | _ => none }
def OperateSumsWrongFalsely : Prop := operateSumsRow.holds Tryz.pinned (OpenSpec.ofChange operateSumsWrong)

/-- 'kraitlaw16.OperateOrder': WHATEVER THE INPUT: true; the input reads as it did. -/
def operateOrderSpec : ChangeSpec := { name := "operateOrder", fn := fun _ => fun
  | [d1, d2, d3] => { results := [.lit (.bool true)], args := [d1, d2, d3] }
  | _ => none }
def operateOrderRow : OpenClaim := { program := "ytellmfimmghidaagreat", sum := "439ae548932494c6ffd0bd2cb8e82f8a43241ed7ecb862ea884fab309e9c994c", func := "krait/kraitlaw16.OperateOrder", spec := "operateOrder", inPlace := ["internal/abi.NoEscape", "internal/bytealg.IndexByteString", "internal/bytealg.IndexString", "internal/bytealg.MakeNoZero"], unfollowed := true, recurses := true, named := ["internal/bytealg.MaxLen"], plainKeys := false, apart := false }
def OperateOrderSaid : Prop := operateOrderRow.holds Tryz.pinned (OpenSpec.ofChange operateOrderSpec)

/-- ITS FALSE NEIGHBOUR: 'it returns false'. Refute it at one input. -/
def operateOrderWrong : ChangeSpec := { name := "operateOrder", fn := fun _ => fun
  | [d1, d2, d3] => { results := [.lit (.bool false)], args := [d1, d2, d3] }
  | _ => none }
def OperateOrderWrongFalsely : Prop := operateOrderRow.holds Tryz.pinned (OpenSpec.ofChange operateOrderWrong)

/-- 'kraitlaw16.OperateLimits': WHATEVER THE INPUT: true; the input reads as it did. -/
def operateLimitsSpec : ChangeSpec := { name := "operateLimits", fn := fun _ => fun
  | [d1, d2] => { results := [.lit (.bool true)], args := [d1, d2] }
  | _ => none }
def operateLimitsRow : OpenClaim := { program := "ytellmfimmghidaagreat", sum := "439ae548932494c6ffd0bd2cb8e82f8a43241ed7ecb862ea884fab309e9c994c", func := "krait/kraitlaw16.OperateLimits", spec := "operateLimits", inPlace := ["internal/abi.NoEscape", "internal/bytealg.IndexByteString", "internal/bytealg.IndexString", "internal/bytealg.MakeNoZero"], unfollowed := true, recurses := true, named := ["internal/bytealg.MaxLen"], plainKeys := false, apart := false }
def OperateLimitsSaid : Prop := operateLimitsRow.holds Tryz.pinned (OpenSpec.ofChange operateLimitsSpec)

/-- ITS FALSE NEIGHBOUR: 'it returns false'. Refute it at one input. -/
def operateLimitsWrong : ChangeSpec := { name := "operateLimits", fn := fun _ => fun
  | [d1, d2] => { results := [.lit (.bool false)], args := [d1, d2] }
  | _ => none }
def OperateLimitsWrongFalsely : Prop := operateLimitsRow.holds Tryz.pinned (OpenSpec.ofChange operateLimitsWrong)

/-- 'kraitlaw16.OperateSlices': WHATEVER THE INPUT: true; the input reads as it did. -/
def operateSlicesSpec : ChangeSpec := { name := "operateSlices", fn := fun _ => fun
  | [d1, d2, d3] => { results := [.lit (.bool true)], args := [d1, d2, d3] }
  | _ => none }
def operateSlicesRow : OpenClaim := { program := "ytellmfimmghidaagreat", sum := "439ae548932494c6ffd0bd2cb8e82f8a43241ed7ecb862ea884fab309e9c994c", func := "krait/kraitlaw16.OperateSlices", spec := "operateSlices", inPlace := ["internal/abi.NoEscape", "internal/bytealg.IndexByteString", "internal/bytealg.IndexString", "internal/bytealg.MakeNoZero"], unfollowed := true, recurses := true, named := ["internal/bytealg.MaxLen"], plainKeys := false, apart := false }
def OperateSlicesSaid : Prop := operateSlicesRow.holds Tryz.pinned (OpenSpec.ofChange operateSlicesSpec)

/-- ITS FALSE NEIGHBOUR: 'it returns false'. Refute it at one input. -/
def operateSlicesWrong : ChangeSpec := { name := "operateSlices", fn := fun _ => fun
  | [d1, d2, d3] => { results := [.lit (.bool false)], args := [d1, d2, d3] }
  | _ => none }
def OperateSlicesWrongFalsely : Prop := operateSlicesRow.holds Tryz.pinned (OpenSpec.ofChange operateSlicesWrong)

/-- 'kraitlaw16.OperateSame': WHATEVER THE INPUT: true; the input reads as it did. -/
def operateSameSpec : ChangeSpec := { name := "operateSame", fn := fun _ => fun
  | [d1, d2] => { results := [.lit (.bool true)], args := [d1, d2] }
  | _ => none }
def operateSameRow : OpenClaim := { program := "ytellmfimmghidaagreat", sum := "439ae548932494c6ffd0bd2cb8e82f8a43241ed7ecb862ea884fab309e9c994c", func := "krait/kraitlaw16.OperateSame", spec := "operateSame", inPlace := ["internal/abi.NoEscape", "internal/bytealg.IndexByteString", "internal/bytealg.IndexString", "internal/bytealg.MakeNoZero"], unfollowed := true, recurses := true, named := ["internal/bytealg.MaxLen"], plainKeys := false, apart := false }
def OperateSameSaid : Prop := operateSameRow.holds Tryz.pinned (OpenSpec.ofChange operateSameSpec)

/-- ITS FALSE NEIGHBOUR: 'it returns false'. Refute it at one input. -/
def operateSameWrong : ChangeSpec := { name := "operateSame", fn := fun _ => fun
  | [d1, d2] => { results := [.lit (.bool false)], args := [d1, d2] }
  | _ => none }
def OperateSameWrongFalsely : Prop := operateSameRow.holds Tryz.pinned (OpenSpec.ofChange operateSameWrong)

/-- 'kraitlaw16.OperateIn': WHATEVER THE INPUT: true; the input reads as it did. -/
def operateInSpec : ChangeSpec := { name := "operateIn", fn := fun _ => fun
  | [d1, d2] => { results := [.lit (.bool true)], args := [d1, d2] }
  | _ => none }
def operateInRow : OpenClaim := { program := "ytellmfimmghidaagreat", sum := "439ae548932494c6ffd0bd2cb8e82f8a43241ed7ecb862ea884fab309e9c994c", func := "krait/kraitlaw16.OperateIn", spec := "operateIn", inPlace := ["internal/abi.NoEscape", "internal/bytealg.IndexByteString", "internal/bytealg.IndexString", "internal/bytealg.MakeNoZero"], unfollowed := true, recurses := true, named := ["internal/bytealg.MaxLen"], plainKeys := false, apart := false }
def OperateInSaid : Prop := operateInRow.holds Tryz.pinned (OpenSpec.ofChange operateInSpec)

/-- ITS FALSE NEIGHBOUR: 'it returns false'. Refute it at one input. -/
def operateInWrong : ChangeSpec := { name := "operateIn", fn := fun _ => fun
  | [d1, d2] => { results := [.lit (.bool false)], args := [d1, d2] }
  | _ => none }
def OperateInWrongFalsely : Prop := operateInRow.holds Tryz.pinned (OpenSpec.ofChange operateInWrong)

/-- 'kraitlaw16.OperateDeep': WHATEVER THE INPUT: true; the input reads as it did. -/
def operateDeepSpec : ChangeSpec := { name := "operateDeep", fn := fun _ => fun
  | [d1, d2, d3] => { results := [.lit (.bool true)], args := [d1, d2, d3] }
  | _ => none }
def operateDeepRow : OpenClaim := { program := "ytellmfimmghidaagreat", sum := "439ae548932494c6ffd0bd2cb8e82f8a43241ed7ecb862ea884fab309e9c994c", func := "krait/kraitlaw16.OperateDeep", spec := "operateDeep", inPlace := ["internal/abi.NoEscape", "internal/bytealg.IndexByteString", "internal/bytealg.IndexString", "internal/bytealg.MakeNoZero"], unfollowed := true, recurses := true, named := ["internal/bytealg.MaxLen"], plainKeys := false, apart := false }
def OperateDeepSaid : Prop := operateDeepRow.holds Tryz.pinned (OpenSpec.ofChange operateDeepSpec)

/-- ITS FALSE NEIGHBOUR: 'it returns false'. Refute it at one input. -/
def operateDeepWrong : ChangeSpec := { name := "operateDeep", fn := fun _ => fun
  | [d1, d2, d3] => { results := [.lit (.bool false)], args := [d1, d2, d3] }
  | _ => none }
def OperateDeepWrongFalsely : Prop := operateDeepRow.holds Tryz.pinned (OpenSpec.ofChange operateDeepWrong)

/-- 'kraitlaw16.OperateKinds': WHATEVER THE INPUT: true; the input reads as it did. -/
def operateKindsSpec : ChangeSpec := { name := "operateKinds", fn := fun _ => fun
  | [d1, d2, d3] => { results := [.lit (.bool true)], args := [d1, d2, d3] }
  | _ => none }
def operateKindsRow : OpenClaim := { program := "ytellmfimmghidaagreat", sum := "439ae548932494c6ffd0bd2cb8e82f8a43241ed7ecb862ea884fab309e9c994c", func := "krait/kraitlaw16.OperateKinds", spec := "operateKinds", inPlace := ["internal/abi.NoEscape", "internal/bytealg.IndexByteString", "internal/bytealg.IndexString", "internal/bytealg.MakeNoZero"], unfollowed := true, recurses := true, named := ["internal/bytealg.MaxLen"], plainKeys := false, apart := false }
def OperateKindsSaid : Prop := operateKindsRow.holds Tryz.pinned (OpenSpec.ofChange operateKindsSpec)

/-- ITS FALSE NEIGHBOUR: 'it returns false'. Refute it at one input. -/
def operateKindsWrong : ChangeSpec := { name := "operateKinds", fn := fun _ => fun
  | [d1, d2, d3] => { results := [.lit (.bool false)], args := [d1, d2, d3] }
  | _ => none }
def OperateKindsWrongFalsely : Prop := operateKindsRow.holds Tryz.pinned (OpenSpec.ofChange operateKindsWrong)

/-- 'kraitlaw16.OperateItems': WHATEVER THE INPUT: true; the input reads as it did. -/
def operateItemsSpec : ChangeSpec := { name := "operateItems", fn := fun _ => fun
  | [d1, d2, d3] => { results := [.lit (.bool true)], args := [d1, d2, d3] }
  | _ => none }
def operateItemsRow : OpenClaim := { program := "ytellmfimmghidaagreat", sum := "439ae548932494c6ffd0bd2cb8e82f8a43241ed7ecb862ea884fab309e9c994c", func := "krait/kraitlaw16.OperateItems", spec := "operateItems", inPlace := ["internal/abi.NoEscape", "internal/bytealg.IndexByteString", "internal/bytealg.IndexString", "internal/bytealg.MakeNoZero"], unfollowed := true, recurses := true, named := ["internal/bytealg.MaxLen"], plainKeys := false, apart := false }
def OperateItemsSaid : Prop := operateItemsRow.holds Tryz.pinned (OpenSpec.ofChange operateItemsSpec)

/-- ITS FALSE NEIGHBOUR: 'it returns false'. Refute it at one input. -/
def operateItemsWrong : ChangeSpec := { name := "operateItems", fn := fun _ => fun
  | [d1, d2, d3] => { results := [.lit (.bool false)], args := [d1, d2, d3] }
  | _ => none }
def OperateItemsWrongFalsely : Prop := operateItemsRow.holds Tryz.pinned (OpenSpec.ofChange operateItemsWrong)

/-- 'kraitlaw16.OperateKeys': WHATEVER THE INPUT: true; the input reads as it did. -/
def operateKeysSpec : ChangeSpec := { name := "operateKeys", fn := fun _ => fun
  | [d1, d2] => { results := [.lit (.bool true)], args := [d1, d2] }
  | _ => none }
def operateKeysRow : OpenClaim := { program := "ytellmfimmghidaagreat", sum := "439ae548932494c6ffd0bd2cb8e82f8a43241ed7ecb862ea884fab309e9c994c", func := "krait/kraitlaw16.OperateKeys", spec := "operateKeys", inPlace := ["internal/abi.NoEscape", "internal/bytealg.IndexByteString", "internal/bytealg.IndexString", "internal/bytealg.MakeNoZero"], unfollowed := true, recurses := true, named := ["internal/bytealg.MaxLen"], plainKeys := false, apart := false }
def OperateKeysSaid : Prop := operateKeysRow.holds Tryz.pinned (OpenSpec.ofChange operateKeysSpec)

/-- ITS FALSE NEIGHBOUR: 'it returns false'. Refute it at one input. -/
def operateKeysWrong : ChangeSpec := { name := "operateKeys", fn := fun _ => fun
  | [d1, d2] => { results := [.lit (.bool false)], args := [d1, d2] }
  | _ => none }
def OperateKeysWrongFalsely : Prop := operateKeysRow.holds Tryz.pinned (OpenSpec.ofChange operateKeysWrong)

/- THE SECOND FORM. 'bulk': how many values and letters a reading holds, each counted each time it is reached (what is shared counts as often as it is met; a slice's spare places count too). A statement '..UptoSaid' is the law's where the arguments, and the package variables that the reading takes, are together of bulk at most 1048576: NARROWER than '..Said'. Prove '..Said' where nothing that the law and all that it calls make is longer than what came in: it says more and counts as full. Else prove '..UptoSaid'. A law counts once. -/
mutual
def uptoBulk {H : Type} : DataW H → Nat
  | .lit (.string bytes) => bytes.length + 1
  | .lit _ => 1
  | .nil => 1
  | .ptr d => uptoBulk d + 1
  | .slice elems spare => uptoBulkAll elems + uptoBulkAll spare + 1
  | .agg parts => uptoBulkAll parts + 1
  | .iface _ d => uptoBulk d + 1
  | .map entries => uptoBulkEntries entries + 1
  | .held _ => 1
def uptoBulkAll {H : Type} : List (DataW H) → Nat
  | [] => 0
  | d :: r => uptoBulk d + uptoBulkAll r
def uptoBulkEntries {H : Type} : List (Lit × DataW H) → Nat
  | [] => 0
  | x :: r => uptoBulkEntry x + uptoBulkEntries r
def uptoBulkEntry {H : Type} : Lit × DataW H → Nat
  | (.string bytes, d) => bytes.length + uptoBulk d + 1
  | (_, d) => uptoBulk d + 1
 end
def uptoSmall : (H : Type) → List (DataW H) → Bool := fun _ ds => decide (uptoBulkAll ds ≤ 1048576)
def OpenSpec.upto (s : _root_.Go.ChangeSpec) : _root_.Go.OpenSpec := { _root_.Go.OpenSpec.ofChange s with cond := some uptoSmall }

/-- 'kraitlaw16.OperateSums', WHERE WHAT IT READS IS OF BULK AT MOST 1048576: true; the input reads as it did. -/
def operateSumsUptoRow : OpenClaim := { program := "ytellmfimmghidaagreat", sum := "439ae548932494c6ffd0bd2cb8e82f8a43241ed7ecb862ea884fab309e9c994c", func := "krait/kraitlaw16.OperateSums", spec := "operateSums", inPlace := ["internal/abi.NoEscape", "internal/bytealg.IndexByteString", "internal/bytealg.IndexString", "internal/bytealg.MakeNoZero"], unfollowed := true, recurses := true, named := ["internal/bytealg.MaxLen"], plainKeys := false, apart := false, narrowed := true }
def OperateSumsUptoSaid : Prop := operateSumsUptoRow.holds Tryz.pinned (OpenSpec.upto operateSumsSpec)

/-- 'kraitlaw16.OperateOrder', WHERE WHAT IT READS IS OF BULK AT MOST 1048576: true; the input reads as it did. -/
def operateOrderUptoRow : OpenClaim := { program := "ytellmfimmghidaagreat", sum := "439ae548932494c6ffd0bd2cb8e82f8a43241ed7ecb862ea884fab309e9c994c", func := "krait/kraitlaw16.OperateOrder", spec := "operateOrder", inPlace := ["internal/abi.NoEscape", "internal/bytealg.IndexByteString", "internal/bytealg.IndexString", "internal/bytealg.MakeNoZero"], unfollowed := true, recurses := true, named := ["internal/bytealg.MaxLen"], plainKeys := false, apart := false, narrowed := true }
def OperateOrderUptoSaid : Prop := operateOrderUptoRow.holds Tryz.pinned (OpenSpec.upto operateOrderSpec)

/-- 'kraitlaw16.OperateLimits', WHERE WHAT IT READS IS OF BULK AT MOST 1048576: true; the input reads as it did. -/
def operateLimitsUptoRow : OpenClaim := { program := "ytellmfimmghidaagreat", sum := "439ae548932494c6ffd0bd2cb8e82f8a43241ed7ecb862ea884fab309e9c994c", func := "krait/kraitlaw16.OperateLimits", spec := "operateLimits", inPlace := ["internal/abi.NoEscape", "internal/bytealg.IndexByteString", "internal/bytealg.IndexString", "internal/bytealg.MakeNoZero"], unfollowed := true, recurses := true, named := ["internal/bytealg.MaxLen"], plainKeys := false, apart := false, narrowed := true }
def OperateLimitsUptoSaid : Prop := operateLimitsUptoRow.holds Tryz.pinned (OpenSpec.upto operateLimitsSpec)

/-- 'kraitlaw16.OperateSlices', WHERE WHAT IT READS IS OF BULK AT MOST 1048576: true; the input reads as it did. -/
def operateSlicesUptoRow : OpenClaim := { program := "ytellmfimmghidaagreat", sum := "439ae548932494c6ffd0bd2cb8e82f8a43241ed7ecb862ea884fab309e9c994c", func := "krait/kraitlaw16.OperateSlices", spec := "operateSlices", inPlace := ["internal/abi.NoEscape", "internal/bytealg.IndexByteString", "internal/bytealg.IndexString", "internal/bytealg.MakeNoZero"], unfollowed := true, recurses := true, named := ["internal/bytealg.MaxLen"], plainKeys := false, apart := false, narrowed := true }
def OperateSlicesUptoSaid : Prop := operateSlicesUptoRow.holds Tryz.pinned (OpenSpec.upto operateSlicesSpec)

/-- 'kraitlaw16.OperateSame', WHERE WHAT IT READS IS OF BULK AT MOST 1048576: true; the input reads as it did. -/
def operateSameUptoRow : OpenClaim := { program := "ytellmfimmghidaagreat", sum := "439ae548932494c6ffd0bd2cb8e82f8a43241ed7ecb862ea884fab309e9c994c", func := "krait/kraitlaw16.OperateSame", spec := "operateSame", inPlace := ["internal/abi.NoEscape", "internal/bytealg.IndexByteString", "internal/bytealg.IndexString", "internal/bytealg.MakeNoZero"], unfollowed := true, recurses := true, named := ["internal/bytealg.MaxLen"], plainKeys := false, apart := false, narrowed := true }
def OperateSameUptoSaid : Prop := operateSameUptoRow.holds Tryz.pinned (OpenSpec.upto operateSameSpec)

/-- 'kraitlaw16.OperateIn', WHERE WHAT IT READS IS OF BULK AT MOST 1048576: true; the input reads as it did. -/
def operateInUptoRow : OpenClaim := { program := "ytellmfimmghidaagreat", sum := "439ae548932494c6ffd0bd2cb8e82f8a43241ed7ecb862ea884fab309e9c994c", func := "krait/kraitlaw16.OperateIn", spec := "operateIn", inPlace := ["internal/abi.NoEscape", "internal/bytealg.IndexByteString", "internal/bytealg.IndexString", "internal/bytealg.MakeNoZero"], unfollowed := true, recurses := true, named := ["internal/bytealg.MaxLen"], plainKeys := false, apart := false, narrowed := true }
def OperateInUptoSaid : Prop := operateInUptoRow.holds Tryz.pinned (OpenSpec.upto operateInSpec)

/-- 'kraitlaw16.OperateDeep', WHERE WHAT IT READS IS OF BULK AT MOST 1048576: true; the input reads as it did. -/
def operateDeepUptoRow : OpenClaim := { program := "ytellmfimmghidaagreat", sum := "439ae548932494c6ffd0bd2cb8e82f8a43241ed7ecb862ea884fab309e9c994c", func := "krait/kraitlaw16.OperateDeep", spec := "operateDeep", inPlace := ["internal/abi.NoEscape", "internal/bytealg.IndexByteString", "internal/bytealg.IndexString", "internal/bytealg.MakeNoZero"], unfollowed := true, recurses := true, named := ["internal/bytealg.MaxLen"], plainKeys := false, apart := false, narrowed := true }
def OperateDeepUptoSaid : Prop := operateDeepUptoRow.holds Tryz.pinned (OpenSpec.upto operateDeepSpec)

/-- 'kraitlaw16.OperateKinds', WHERE WHAT IT READS IS OF BULK AT MOST 1048576: true; the input reads as it did. -/
def operateKindsUptoRow : OpenClaim := { program := "ytellmfimmghidaagreat", sum := "439ae548932494c6ffd0bd2cb8e82f8a43241ed7ecb862ea884fab309e9c994c", func := "krait/kraitlaw16.OperateKinds", spec := "operateKinds", inPlace := ["internal/abi.NoEscape", "internal/bytealg.IndexByteString", "internal/bytealg.IndexString", "internal/bytealg.MakeNoZero"], unfollowed := true, recurses := true, named := ["internal/bytealg.MaxLen"], plainKeys := false, apart := false, narrowed := true }
def OperateKindsUptoSaid : Prop := operateKindsUptoRow.holds Tryz.pinned (OpenSpec.upto operateKindsSpec)

/-- 'kraitlaw16.OperateItems', WHERE WHAT IT READS IS OF BULK AT MOST 1048576: true; the input reads as it did. -/
def operateItemsUptoRow : OpenClaim := { program := "ytellmfimmghidaagreat", sum := "439ae548932494c6ffd0bd2cb8e82f8a43241ed7ecb862ea884fab309e9c994c", func := "krait/kraitlaw16.OperateItems", spec := "operateItems", inPlace := ["internal/abi.NoEscape", "internal/bytealg.IndexByteString", "internal/bytealg.IndexString", "internal/bytealg.MakeNoZero"], unfollowed := true, recurses := true, named := ["internal/bytealg.MaxLen"], plainKeys := false, apart := false, narrowed := true }
def OperateItemsUptoSaid : Prop := operateItemsUptoRow.holds Tryz.pinned (OpenSpec.upto operateItemsSpec)

/-- 'kraitlaw16.OperateKeys', WHERE WHAT IT READS IS OF BULK AT MOST 1048576: true; the input reads as it did. -/
def operateKeysUptoRow : OpenClaim := { program := "ytellmfimmghidaagreat", sum := "439ae548932494c6ffd0bd2cb8e82f8a43241ed7ecb862ea884fab309e9c994c", func := "krait/kraitlaw16.OperateKeys", spec := "operateKeys", inPlace := ["internal/abi.NoEscape", "internal/bytealg.IndexByteString", "internal/bytealg.IndexString", "internal/bytealg.MakeNoZero"], unfollowed := true, recurses := true, named := ["internal/bytealg.MaxLen"], plainKeys := false, apart := false, narrowed := true }
def OperateKeysUptoSaid : Prop := operateKeysUptoRow.holds Tryz.pinned (OpenSpec.upto operateKeysSpec)

end Rows
end Go.Proofs.YtellmfimmghidaaGreat
