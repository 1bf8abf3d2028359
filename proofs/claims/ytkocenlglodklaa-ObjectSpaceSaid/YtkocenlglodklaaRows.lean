/-
  No cell of these rows narrows 'for every input' (looked for: loops, veiled, ifaces, maps, wideKeys, modest, calm, conditions, laid).
  DERIVED. THE GIVEN ROWS OF THIS SEAT. 8 by the template 'for every input the law returns true; each argument reads behind the call as it read before'; 0 by the template 'total and deterministic' (their statements: YtkocenlglodklaaTotals.lean).
  GIVEN WITH THE SEED: the statements are not yours to turn. If you find one false, say at which input.
  Laid BY PROGRAM, IN A SANDBOX (cutbox-rows.mjs): the forced cells as the released guide's own fill.sh prints them over the translation a03fd8b4c78cf038… (all of the seat's roots in one cut). By AI agents, Wed Nov 11 2026. No macro, syntax, notation, axiom, sorry.
-/
import Derived.Test.YtkocenlglodklaaChecked
import GoSem.Claim
import GoSem.ClaimJoined
import GoSem.ClaimMapViews
import Derived.JoinedTies
import Derived.KernelRfl
namespace Go.Proofs.Ytkocenlglodklaa
/- THE CELL 'sum', in the pinned program and in every row, IS THE sha256 OF THE DUMP (.gsa) THAT YtkocenlglodklaaProg.lean LOADS. Nothing in Lean hashes anything: it is a label: what it is worth is what the hold of that sum in a sandbox is worth. -/
noncomputable def Try.pinned : Pinned := { name := "ytkocenlglodklaa", sum := "a03fd8b4c78cf038e082c8be26d1b9673f7be7eaadbe66ddb2f892596674ad6a", checked := Try.checked }
namespace Rows
def none {H : Type} : Left H := { results := [], args := [] }

/-- 'kraitlaw14.ObjectSubs': WHATEVER THE INPUT: true; the input reads as it did. -/
def objectSubsSpec : ChangeSpec := { name := "objectSubs", fn := fun _ => fun
  | [d1, d2] => { results := [.lit (.bool true)], args := [d1, d2] }
  | _ => none }
def objectSubsRow : OpenClaim := { program := "ytkocenlglodklaa", sum := "a03fd8b4c78cf038e082c8be26d1b9673f7be7eaadbe66ddb2f892596674ad6a", func := "krait/kraitlaw14.ObjectSubs", spec := "objectSubs", unfollowed := true, recurses := true, plainKeys := false, apart := false }
def ObjectSubsSaid : Prop := objectSubsRow.holds Try.pinned (OpenSpec.ofChange objectSubsSpec)

/-- ITS FALSE NEIGHBOUR: 'it returns false'. Refute it at one input. -/
def objectSubsWrong : ChangeSpec := { name := "objectSubs", fn := fun _ => fun
  | [d1, d2] => { results := [.lit (.bool false)], args := [d1, d2] }
  | _ => none }
def ObjectSubsWrongFalsely : Prop := objectSubsRow.holds Try.pinned (OpenSpec.ofChange objectSubsWrong)

/-- 'kraitlaw14.ObjectBound': WHATEVER THE INPUT: true; the input reads as it did. -/
def objectBoundSpec : ChangeSpec := { name := "objectBound", fn := fun _ => fun
  | [d1, d2, d3] => { results := [.lit (.bool true)], args := [d1, d2, d3] }
  | _ => none }
def objectBoundRow : OpenClaim := { program := "ytkocenlglodklaa", sum := "a03fd8b4c78cf038e082c8be26d1b9673f7be7eaadbe66ddb2f892596674ad6a", func := "krait/kraitlaw14.ObjectBound", spec := "objectBound", unfollowed := true, recurses := true, plainKeys := false, apart := false }
def ObjectBoundSaid : Prop := objectBoundRow.holds Try.pinned (OpenSpec.ofChange objectBoundSpec)

/-- ITS FALSE NEIGHBOUR: 'it returns false'. Refute it at one input. -/
def objectBoundWrong : ChangeSpec := { name := "objectBound", fn := fun _ => fun
  | [d1, d2, d3] => { results := [.lit (.bool false)], args := [d1, d2, d3] }
  | _ => none }
def ObjectBoundWrongFalsely : Prop := objectBoundRow.holds Try.pinned (OpenSpec.ofChange objectBoundWrong)

/-- 'kraitlaw14.ObjectFull': WHATEVER THE INPUT: true; the input reads as it did. -/
def objectFullSpec : ChangeSpec := { name := "objectFull", fn := fun _ => fun
  | [d1, d2] => { results := [.lit (.bool true)], args := [d1, d2] }
  | _ => none }
def objectFullRow : OpenClaim := { program := "ytkocenlglodklaa", sum := "a03fd8b4c78cf038e082c8be26d1b9673f7be7eaadbe66ddb2f892596674ad6a", func := "krait/kraitlaw14.ObjectFull", spec := "objectFull", unfollowed := true, recurses := true, plainKeys := false, apart := false }
def ObjectFullSaid : Prop := objectFullRow.holds Try.pinned (OpenSpec.ofChange objectFullSpec)

/-- ITS FALSE NEIGHBOUR: 'it returns false'. Refute it at one input. -/
def objectFullWrong : ChangeSpec := { name := "objectFull", fn := fun _ => fun
  | [d1, d2] => { results := [.lit (.bool false)], args := [d1, d2] }
  | _ => none }
def ObjectFullWrongFalsely : Prop := objectFullRow.holds Try.pinned (OpenSpec.ofChange objectFullWrong)

/-- 'kraitlaw14.ObjectSpace': WHATEVER THE INPUT: true; the input reads as it did. -/
def objectSpaceSpec : ChangeSpec := { name := "objectSpace", fn := fun _ => fun
  | [d1, d2] => { results := [.lit (.bool true)], args := [d1, d2] }
  | _ => none }
def objectSpaceRow : OpenClaim := { program := "ytkocenlglodklaa", sum := "a03fd8b4c78cf038e082c8be26d1b9673f7be7eaadbe66ddb2f892596674ad6a", func := "krait/kraitlaw14.ObjectSpace", spec := "objectSpace", unfollowed := true, recurses := true, plainKeys := false, apart := false }
def ObjectSpaceSaid : Prop := objectSpaceRow.holds Try.pinned (OpenSpec.ofChange objectSpaceSpec)

/-- ITS FALSE NEIGHBOUR: 'it returns false'. Refute it at one input. -/
def objectSpaceWrong : ChangeSpec := { name := "objectSpace", fn := fun _ => fun
  | [d1, d2] => { results := [.lit (.bool false)], args := [d1, d2] }
  | _ => none }
def ObjectSpaceWrongFalsely : Prop := objectSpaceRow.holds Try.pinned (OpenSpec.ofChange objectSpaceWrong)

/-- 'kraitlaw14.ObjectFinds': WHATEVER THE INPUT: true; the input reads as it did. -/
def objectFindsSpec : ChangeSpec := { name := "objectFinds", fn := fun _ => fun
  | [d1, d2, d3] => { results := [.lit (.bool true)], args := [d1, d2, d3] }
  | _ => none }
def objectFindsRow : OpenClaim := { program := "ytkocenlglodklaa", sum := "a03fd8b4c78cf038e082c8be26d1b9673f7be7eaadbe66ddb2f892596674ad6a", func := "krait/kraitlaw14.ObjectFinds", spec := "objectFinds", unfollowed := true, recurses := true, plainKeys := false, apart := false }
def ObjectFindsSaid : Prop := objectFindsRow.holds Try.pinned (OpenSpec.ofChange objectFindsSpec)

/-- ITS FALSE NEIGHBOUR: 'it returns false'. Refute it at one input. -/
def objectFindsWrong : ChangeSpec := { name := "objectFinds", fn := fun _ => fun
  | [d1, d2, d3] => { results := [.lit (.bool false)], args := [d1, d2, d3] }
  | _ => none }
def ObjectFindsWrongFalsely : Prop := objectFindsRow.holds Try.pinned (OpenSpec.ofChange objectFindsWrong)

/-- 'kraitlaw14.ObjectOrders': WHATEVER THE INPUT: true; the input reads as it did. -/
def objectOrdersSpec : ChangeSpec := { name := "objectOrders", fn := fun _ => fun
  | [d] => { results := [.lit (.bool true)], args := [d] }
  | _ => none }
def objectOrdersRow : OpenClaim := { program := "ytkocenlglodklaa", sum := "a03fd8b4c78cf038e082c8be26d1b9673f7be7eaadbe66ddb2f892596674ad6a", func := "krait/kraitlaw14.ObjectOrders", spec := "objectOrders", unfollowed := true, recurses := true, plainKeys := false, apart := false }
def ObjectOrdersSaid : Prop := objectOrdersRow.holds Try.pinned (OpenSpec.ofChange objectOrdersSpec)

/-- ITS FALSE NEIGHBOUR: 'it returns false'. Refute it at one input. -/
def objectOrdersWrong : ChangeSpec := { name := "objectOrders", fn := fun _ => fun
  | [d] => { results := [.lit (.bool false)], args := [d] }
  | _ => none }
def ObjectOrdersWrongFalsely : Prop := objectOrdersRow.holds Try.pinned (OpenSpec.ofChange objectOrdersWrong)

/-- 'kraitlaw14.ObjectClosed': WHATEVER THE INPUT: true; the input reads as it did. -/
def objectClosedSpec : ChangeSpec := { name := "objectClosed", fn := fun _ => fun
  | [d1, d2, d3] => { results := [.lit (.bool true)], args := [d1, d2, d3] }
  | _ => none }
def objectClosedRow : OpenClaim := { program := "ytkocenlglodklaa", sum := "a03fd8b4c78cf038e082c8be26d1b9673f7be7eaadbe66ddb2f892596674ad6a", func := "krait/kraitlaw14.ObjectClosed", spec := "objectClosed", unfollowed := true, recurses := true, plainKeys := false, apart := false }
def ObjectClosedSaid : Prop := objectClosedRow.holds Try.pinned (OpenSpec.ofChange objectClosedSpec)

/-- ITS FALSE NEIGHBOUR: 'it returns false'. Refute it at one input. -/
def objectClosedWrong : ChangeSpec := { name := "objectClosed", fn := fun _ => fun
  | [d1, d2, d3] => { results := [.lit (.bool false)], args := [d1, d2, d3] }
  | _ => none }
def ObjectClosedWrongFalsely : Prop := objectClosedRow.holds Try.pinned (OpenSpec.ofChange objectClosedWrong)

/-- 'kraitlaw14.ObjectHolds': WHATEVER THE INPUT: true; the input reads as it did. -/
def objectHoldsSpec : ChangeSpec := { name := "objectHolds", fn := fun _ => fun
  | [d1, d2] => { results := [.lit (.bool true)], args := [d1, d2] }
  | _ => none }
def objectHoldsRow : OpenClaim := { program := "ytkocenlglodklaa", sum := "a03fd8b4c78cf038e082c8be26d1b9673f7be7eaadbe66ddb2f892596674ad6a", func := "krait/kraitlaw14.ObjectHolds", spec := "objectHolds", unfollowed := true, recurses := true, plainKeys := false, apart := false }
def ObjectHoldsSaid : Prop := objectHoldsRow.holds Try.pinned (OpenSpec.ofChange objectHoldsSpec)

/-- ITS FALSE NEIGHBOUR: 'it returns false'. Refute it at one input. -/
def objectHoldsWrong : ChangeSpec := { name := "objectHolds", fn := fun _ => fun
  | [d1, d2] => { results := [.lit (.bool false)], args := [d1, d2] }
  | _ => none }
def ObjectHoldsWrongFalsely : Prop := objectHoldsRow.holds Try.pinned (OpenSpec.ofChange objectHoldsWrong)

/- THE SECOND FORM. 'bulk': how many values and letters a reading holds, each counted each time it is reached (what is shared counts as often as it is met; a slice's spare places count too). A statement '..UptoSaid' is the law's where the arguments, and the package variables that the reading takes, are together of bulk at most 1048576: NARROWER than '..Said'. Prove '..Said' where nothing that the law and all that it calls make is longer than what came in: it says more and counts as full. Else prove '..UptoSaid'. A law counts once. -/
mutual
def uptoBulk {H : Type} : DataW H → Nat
  | .lit (.string bytes) => bytes.length + 1
  | .lit _ => 1
  | .nil => 1
  | .ptr d => uptoBulk d + 1
  | .slice elems spare => uptoBulkAll elems + uptoBulkAll spare + 1
  | .agg parts => uptoBulkAll parts + 1
  | .iface _ d => uptoBulk d + 1
  | .map entries => uptoBulkEntries entries + 1
  | .held _ => 1
def uptoBulkAll {H : Type} : List (DataW H) → Nat
  | [] => 0
  | d :: r => uptoBulk d + uptoBulkAll r
def uptoBulkEntries {H : Type} : List (Lit × DataW H) → Nat
  | [] => 0
  | x :: r => uptoBulkEntry x + uptoBulkEntries r
def uptoBulkEntry {H : Type} : Lit × DataW H → Nat
  | (.string bytes, d) => bytes.length + uptoBulk d + 1
  | (_, d) => uptoBulk d + 1
 end
def uptoSmall : (H : Type) → List (DataW H) → Bool := fun _ ds => decide (uptoBulkAll ds ≤ 1048576)
def OpenSpec.upto (s : _root_.Go.ChangeSpec) : _root_.Go.OpenSpec := { _root_.Go.OpenSpec.ofChange s with cond := some uptoSmall }

/-- 'kraitlaw14.ObjectSubs', WHERE WHAT IT READS IS OF BULK AT MOST 1048576: true; the input reads as it did. -/
def objectSubsUptoRow : OpenClaim := { program := "ytkocenlglodklaa", sum := "a03fd8b4c78cf038e082c8be26d1b9673f7be7eaadbe66ddb2f892596674ad6a", func := "krait/kraitlaw14.ObjectSubs", spec := "objectSubs", unfollowed := true, recurses := true, plainKeys := false, apart := false, narrowed := true }
def ObjectSubsUptoSaid : Prop := objectSubsUptoRow.holds Try.pinned (OpenSpec.upto objectSubsSpec)

/-- 'kraitlaw14.ObjectBound', WHERE WHAT IT READS IS OF BULK AT MOST 1048576: true; the input reads as it did. -/
def objectBoundUptoRow : OpenClaim := { program := "ytkocenlglodklaa", sum := "a03fd8b4c78cf038e082c8be26d1b9673f7be7eaadbe66ddb2f892596674ad6a", func := "krait/kraitlaw14.ObjectBound", spec := "objectBound", unfollowed := true, recurses := true, plainKeys := false, apart := false, narrowed := true }
def ObjectBoundUptoSaid : Prop := objectBoundUptoRow.holds Try.pinned (OpenSpec.upto objectBoundSpec)

/-- 'kraitlaw14.ObjectFull', WHERE WHAT IT READS IS OF BULK AT MOST 1048576: true; the input reads as it did. -/
def objectFullUptoRow : OpenClaim := { program := "ytkocenlglodklaa", sum := "a03fd8b4c78cf038e082c8be26d1b9673f7be7eaadbe66ddb2f892596674ad6a", func := "krait/kraitlaw14.ObjectFull", spec := "objectFull", unfollowed := true, recurses := true, plainKeys := false, apart := false, narrowed := true }
def ObjectFullUptoSaid : Prop := objectFullUptoRow.holds Try.pinned (OpenSpec.upto objectFullSpec)

/-- 'kraitlaw14.ObjectSpace', WHERE WHAT IT READS IS OF BULK AT MOST 1048576: true; the input reads as it did. -/
def objectSpaceUptoRow : OpenClaim := { program := "ytkocenlglodklaa", sum := "a03fd8b4c78cf038e082c8be26d1b9673f7be7eaadbe66ddb2f892596674ad6a", func := "krait/kraitlaw14.ObjectSpace", spec := "objectSpace", unfollowed := true, recurses := true, plainKeys := false, apart := false, narrowed := true }
def ObjectSpaceUptoSaid : Prop := objectSpaceUptoRow.holds Try.pinned (OpenSpec.upto objectSpaceSpec)

/-- 'kraitlaw14.ObjectFinds', WHERE WHAT IT READS IS OF BULK AT MOST 1048576: true; the input reads as it did. -/
def objectFindsUptoRow : OpenClaim := { program := "ytkocenlglodklaa", sum := "a03fd8b4c78cf038e082c8be26d1b9673f7be7eaadbe66ddb2f892596674ad6a", func := "krait/kraitlaw14.ObjectFinds", spec := "objectFinds", unfollowed := true, recurses := true, plainKeys := false, apart := false, narrowed := true }
def ObjectFindsUptoSaid : Prop := objectFindsUptoRow.holds Try.pinned (OpenSpec.upto objectFindsSpec)

/-- 'kraitlaw14.ObjectOrders', WHERE WHAT IT READS IS OF BULK AT MOST 1048576: true; the input reads as it did. -/
def objectOrdersUptoRow : OpenClaim := { program := "ytkocenlglodklaa", sum := "a03fd8b4c78cf038e082c8be26d1b9673f7be7eaadbe66ddb2f892596674ad6a", func := "krait/kraitlaw14.ObjectOrders", spec := "objectOrders", unfollowed := true, recurses := true, plainKeys := false, apart := false, narrowed := true }
def ObjectOrdersUptoSaid : Prop := objectOrdersUptoRow.holds Try.pinned (OpenSpec.upto objectOrdersSpec)

/-- 'kraitlaw14.ObjectClosed', WHERE WHAT IT READS IS OF BULK AT MOST 1048576: true; the input reads as it did. -/
def objectClosedUptoRow : OpenClaim := { program := "ytkocenlglodklaa", sum := "a03fd8b4c78cf038e082c8be26d1b9673f7be7eaadbe66ddb2f892596674ad6a", func := "krait/kraitlaw14.ObjectClosed", spec := "objectClosed", unfollowed := true, recurses := true, plainKeys := false, apart := false, narrowed := true }
def ObjectClosedUptoSaid : Prop := objectClosedUptoRow.holds Try.pinned (OpenSpec.upto objectClosedSpec)

/-- 'kraitlaw14.ObjectHolds', WHERE WHAT IT READS IS OF BULK AT MOST 1048576: true; the input reads as it did. -/
def objectHoldsUptoRow : OpenClaim := { program := "ytkocenlglodklaa", sum := "a03fd8b4c78cf038e082c8be26d1b9673f7be7eaadbe66ddb2f892596674ad6a", func := "krait/kraitlaw14.ObjectHolds", spec := "objectHolds", unfollowed := true, recurses := true, plainKeys := false, apart := false, narrowed := true }
def ObjectHoldsUptoSaid : Prop := objectHoldsUptoRow.holds Try.pinned (OpenSpec.upto objectHoldsSpec)

end Rows
end Go.Proofs.Ytkocenlglodklaa
