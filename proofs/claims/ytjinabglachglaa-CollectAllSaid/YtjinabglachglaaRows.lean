/-
  No cell of these rows narrows 'for every input' (looked for: loops, veiled, ifaces, maps, wideKeys, modest, calm, conditions, laid).
  DERIVED. THE GIVEN ROWS OF THIS SEAT. 9 by the template 'for every input the law returns true; each argument reads behind the call as it read before'; 0 by the template 'total and deterministic' (their statements: YtjinabglachglaaTotals.lean).
  GIVEN WITH THE SEED: the statements are not yours to turn. If you find one false, say at which input.
  Laid BY PROGRAM, IN A SANDBOX (cutbox-rows.mjs): the forced cells as the released guide's own fill.sh prints them over the translation 93902c1ca1cfa631… (all of the seat's roots in one cut). By AI agents, Wed Nov 11 2026. No macro, syntax, notation, axiom, sorry.
-/
import Derived.Test.YtjinabglachglaaChecked
import GoSem.Claim
import GoSem.ClaimJoined
import GoSem.ClaimMapViews
import Derived.JoinedTies
import Derived.KernelRfl
namespace Go.Proofs.Ytjinabglachglaa
/- THE CELL 'sum', in the pinned program and in every row, IS THE sha256 OF THE DUMP (.gsa) THAT YtjinabglachglaaProg.lean LOADS. Nothing in Lean hashes anything: it is a label: what it is worth is what the hold of that sum in a sandbox is worth. -/
noncomputable def Try.pinned : Pinned := { name := "ytjinabglachglaa", sum := "93902c1ca1cfa63156991fbb1362f74747a77f76101b47af9f8938b1ee8ecc91", checked := Try.checked }
namespace Rows
def none {H : Type} : Left H := { results := [], args := [] }

/-- 'kraitlaw13.CollectNil': WHATEVER THE INPUT: true; the input reads as it did. -/
def collectNilSpec : ChangeSpec := { name := "collectNil", fn := fun _ => fun
  | [d] => { results := [.lit (.bool true)], args := [d] }
  | _ => none }
def collectNilRow : OpenClaim := { program := "ytjinabglachglaa", sum := "93902c1ca1cfa63156991fbb1362f74747a77f76101b47af9f8938b1ee8ecc91", func := "krait/kraitlaw13.CollectNil", spec := "collectNil", unfollowed := true, recurses := true, plainKeys := false, apart := false }
def CollectNilSaid : Prop := collectNilRow.holds Try.pinned (OpenSpec.ofChange collectNilSpec)

/-- ITS FALSE NEIGHBOUR: 'it returns false'. Refute it at one input. -/
def collectNilWrong : ChangeSpec := { name := "collectNil", fn := fun _ => fun
  | [d] => { results := [.lit (.bool false)], args := [d] }
  | _ => none }
def CollectNilWrongFalsely : Prop := collectNilRow.holds Try.pinned (OpenSpec.ofChange collectNilWrong)

/-- 'kraitlaw13.CollectReached': WHATEVER THE INPUT: true; the input reads as it did. -/
def collectReachedSpec : ChangeSpec := { name := "collectReached", fn := fun _ => fun
  | [d] => { results := [.lit (.bool true)], args := [d] }
  | _ => none }
def collectReachedRow : OpenClaim := { program := "ytjinabglachglaa", sum := "93902c1ca1cfa63156991fbb1362f74747a77f76101b47af9f8938b1ee8ecc91", func := "krait/kraitlaw13.CollectReached", spec := "collectReached", unfollowed := true, recurses := true, plainKeys := false, apart := false }
def CollectReachedSaid : Prop := collectReachedRow.holds Try.pinned (OpenSpec.ofChange collectReachedSpec)

/-- ITS FALSE NEIGHBOUR: 'it returns false'. Refute it at one input. -/
def collectReachedWrong : ChangeSpec := { name := "collectReached", fn := fun _ => fun
  | [d] => { results := [.lit (.bool false)], args := [d] }
  | _ => none }
def CollectReachedWrongFalsely : Prop := collectReachedRow.holds Try.pinned (OpenSpec.ofChange collectReachedWrong)

/-- 'kraitlaw13.CollectGarbage': WHATEVER THE INPUT: true; the input reads as it did. -/
def collectGarbageSpec : ChangeSpec := { name := "collectGarbage", fn := fun _ => fun
  | [d] => { results := [.lit (.bool true)], args := [d] }
  | _ => none }
def collectGarbageRow : OpenClaim := { program := "ytjinabglachglaa", sum := "93902c1ca1cfa63156991fbb1362f74747a77f76101b47af9f8938b1ee8ecc91", func := "krait/kraitlaw13.CollectGarbage", spec := "collectGarbage", unfollowed := true, recurses := true, plainKeys := false, apart := false }
def CollectGarbageSaid : Prop := collectGarbageRow.holds Try.pinned (OpenSpec.ofChange collectGarbageSpec)

/-- ITS FALSE NEIGHBOUR: 'it returns false'. Refute it at one input. -/
def collectGarbageWrong : ChangeSpec := { name := "collectGarbage", fn := fun _ => fun
  | [d] => { results := [.lit (.bool false)], args := [d] }
  | _ => none }
def CollectGarbageWrongFalsely : Prop := collectGarbageRow.holds Try.pinned (OpenSpec.ofChange collectGarbageWrong)

/-- 'kraitlaw13.CollectRing': WHATEVER THE INPUT: true; the input reads as it did. -/
def collectRingSpec : ChangeSpec := { name := "collectRing", fn := fun _ => fun
  | [d1, d2] => { results := [.lit (.bool true)], args := [d1, d2] }
  | _ => none }
def collectRingRow : OpenClaim := { program := "ytjinabglachglaa", sum := "93902c1ca1cfa63156991fbb1362f74747a77f76101b47af9f8938b1ee8ecc91", func := "krait/kraitlaw13.CollectRing", spec := "collectRing", unfollowed := true, recurses := true, plainKeys := false, apart := false }
def CollectRingSaid : Prop := collectRingRow.holds Try.pinned (OpenSpec.ofChange collectRingSpec)

/-- ITS FALSE NEIGHBOUR: 'it returns false'. Refute it at one input. -/
def collectRingWrong : ChangeSpec := { name := "collectRing", fn := fun _ => fun
  | [d1, d2] => { results := [.lit (.bool false)], args := [d1, d2] }
  | _ => none }
def CollectRingWrongFalsely : Prop := collectRingRow.holds Try.pinned (OpenSpec.ofChange collectRingWrong)

/-- 'kraitlaw13.CollectMore': WHATEVER THE INPUT: true; the input reads as it did. -/
def collectMoreSpec : ChangeSpec := { name := "collectMore", fn := fun _ => fun
  | [d1, d2] => { results := [.lit (.bool true)], args := [d1, d2] }
  | _ => none }
def collectMoreRow : OpenClaim := { program := "ytjinabglachglaa", sum := "93902c1ca1cfa63156991fbb1362f74747a77f76101b47af9f8938b1ee8ecc91", func := "krait/kraitlaw13.CollectMore", spec := "collectMore", unfollowed := true, recurses := true, plainKeys := false, apart := false }
def CollectMoreSaid : Prop := collectMoreRow.holds Try.pinned (OpenSpec.ofChange collectMoreSpec)

/-- ITS FALSE NEIGHBOUR: 'it returns false'. Refute it at one input. -/
def collectMoreWrong : ChangeSpec := { name := "collectMore", fn := fun _ => fun
  | [d1, d2] => { results := [.lit (.bool false)], args := [d1, d2] }
  | _ => none }
def CollectMoreWrongFalsely : Prop := collectMoreRow.holds Try.pinned (OpenSpec.ofChange collectMoreWrong)

/-- 'kraitlaw13.CollectParts': WHATEVER THE INPUT: true; the input reads as it did. -/
def collectPartsSpec : ChangeSpec := { name := "collectParts", fn := fun _ => fun
  | [d1, d2] => { results := [.lit (.bool true)], args := [d1, d2] }
  | _ => none }
def collectPartsRow : OpenClaim := { program := "ytjinabglachglaa", sum := "93902c1ca1cfa63156991fbb1362f74747a77f76101b47af9f8938b1ee8ecc91", func := "krait/kraitlaw13.CollectParts", spec := "collectParts", unfollowed := true, recurses := true, plainKeys := false, apart := false }
def CollectPartsSaid : Prop := collectPartsRow.holds Try.pinned (OpenSpec.ofChange collectPartsSpec)

/-- ITS FALSE NEIGHBOUR: 'it returns false'. Refute it at one input. -/
def collectPartsWrong : ChangeSpec := { name := "collectParts", fn := fun _ => fun
  | [d1, d2] => { results := [.lit (.bool false)], args := [d1, d2] }
  | _ => none }
def CollectPartsWrongFalsely : Prop := collectPartsRow.holds Try.pinned (OpenSpec.ofChange collectPartsWrong)

/-- 'kraitlaw13.CollectGoes': WHATEVER THE INPUT: true; the input reads as it did. -/
def collectGoesSpec : ChangeSpec := { name := "collectGoes", fn := fun _ => fun
  | [d] => { results := [.lit (.bool true)], args := [d] }
  | _ => none }
def collectGoesRow : OpenClaim := { program := "ytjinabglachglaa", sum := "93902c1ca1cfa63156991fbb1362f74747a77f76101b47af9f8938b1ee8ecc91", func := "krait/kraitlaw13.CollectGoes", spec := "collectGoes", unfollowed := true, recurses := true, plainKeys := false, apart := false }
def CollectGoesSaid : Prop := collectGoesRow.holds Try.pinned (OpenSpec.ofChange collectGoesSpec)

/-- ITS FALSE NEIGHBOUR: 'it returns false'. Refute it at one input. -/
def collectGoesWrong : ChangeSpec := { name := "collectGoes", fn := fun _ => fun
  | [d] => { results := [.lit (.bool false)], args := [d] }
  | _ => none }
def CollectGoesWrongFalsely : Prop := collectGoesRow.holds Try.pinned (OpenSpec.ofChange collectGoesWrong)

/-- 'kraitlaw13.CollectLeft': WHATEVER THE INPUT: true; the input reads as it did. -/
def collectLeftSpec : ChangeSpec := { name := "collectLeft", fn := fun _ => fun
  | [d] => { results := [.lit (.bool true)], args := [d] }
  | _ => none }
def collectLeftRow : OpenClaim := { program := "ytjinabglachglaa", sum := "93902c1ca1cfa63156991fbb1362f74747a77f76101b47af9f8938b1ee8ecc91", func := "krait/kraitlaw13.CollectLeft", spec := "collectLeft", unfollowed := true, recurses := true, plainKeys := false, apart := false }
def CollectLeftSaid : Prop := collectLeftRow.holds Try.pinned (OpenSpec.ofChange collectLeftSpec)

/-- ITS FALSE NEIGHBOUR: 'it returns false'. Refute it at one input. -/
def collectLeftWrong : ChangeSpec := { name := "collectLeft", fn := fun _ => fun
  | [d] => { results := [.lit (.bool false)], args := [d] }
  | _ => none }
def CollectLeftWrongFalsely : Prop := collectLeftRow.holds Try.pinned (OpenSpec.ofChange collectLeftWrong)

/-- 'kraitlaw13.CollectAll': WHATEVER THE INPUT: true; the input reads as it did. -/
def collectAllSpec : ChangeSpec := { name := "collectAll", fn := fun _ => fun
  | [d] => { results := [.lit (.bool true)], args := [d] }
  | _ => none }
def collectAllRow : OpenClaim := { program := "ytjinabglachglaa", sum := "93902c1ca1cfa63156991fbb1362f74747a77f76101b47af9f8938b1ee8ecc91", func := "krait/kraitlaw13.CollectAll", spec := "collectAll", unfollowed := true, recurses := true, plainKeys := false, apart := false }
def CollectAllSaid : Prop := collectAllRow.holds Try.pinned (OpenSpec.ofChange collectAllSpec)

/-- ITS FALSE NEIGHBOUR: 'it returns false'. Refute it at one input. -/
def collectAllWrong : ChangeSpec := { name := "collectAll", fn := fun _ => fun
  | [d] => { results := [.lit (.bool false)], args := [d] }
  | _ => none }
def CollectAllWrongFalsely : Prop := collectAllRow.holds Try.pinned (OpenSpec.ofChange collectAllWrong)

/- THE SECOND FORM. 'bulk': how many values and letters a reading holds, each counted each time it is reached (what is shared counts as often as it is met; a slice's spare places count too). A statement '..UptoSaid' is the law's where the arguments, and the package variables that the reading takes, are together of bulk at most 1048576: NARROWER than '..Said'. Prove '..Said' where nothing that the law and all that it calls make is longer than what came in: it says more and counts as full. Else prove '..UptoSaid'. A law counts once. -/
mutual
def uptoBulk {H : Type} : DataW H → Nat
  | .lit (.string bytes) => bytes.length + 1
  | .lit _ => 1
  | .nil => 1
  | .ptr d => uptoBulk d + 1
  | .slice elems spare => uptoBulkAll elems + uptoBulkAll spare + 1
  | .agg parts => uptoBulkAll parts + 1
  | .iface _ d => uptoBulk d + 1
  | .map entries => uptoBulkEntries entries + 1
  | .held _ => 1
def uptoBulkAll {H : Type} : List (DataW H) → Nat
  | [] => 0
  | d :: r => uptoBulk d + uptoBulkAll r
def uptoBulkEntries {H : Type} : List (Lit × DataW H) → Nat
  | [] => 0
  | x :: r => uptoBulkEntry x + uptoBulkEntries r
def uptoBulkEntry {H : Type} : Lit × DataW H → Nat
  | (.string bytes, d) => bytes.length + uptoBulk d + 1
  | (_, d) => uptoBulk d + 1
 end
def uptoSmall : (H : Type) → List (DataW H) → Bool := fun _ ds => decide (uptoBulkAll ds ≤ 1048576)
def OpenSpec.upto (s : _root_.Go.ChangeSpec) : _root_.Go.OpenSpec := { _root_.Go.OpenSpec.ofChange s with cond := some uptoSmall }

/-- 'kraitlaw13.CollectNil', WHERE WHAT IT READS IS OF BULK AT MOST 1048576: true; the input reads as it did. -/
def collectNilUptoRow : OpenClaim := { program := "ytjinabglachglaa", sum := "93902c1ca1cfa63156991fbb1362f74747a77f76101b47af9f8938b1ee8ecc91", func := "krait/kraitlaw13.CollectNil", spec := "collectNil", unfollowed := true, recurses := true, plainKeys := false, apart := false, narrowed := true }
def CollectNilUptoSaid : Prop := collectNilUptoRow.holds Try.pinned (OpenSpec.upto collectNilSpec)

/-- 'kraitlaw13.CollectReached', WHERE WHAT IT READS IS OF BULK AT MOST 1048576: true; the input reads as it did. -/
def collectReachedUptoRow : OpenClaim := { program := "ytjinabglachglaa", sum := "93902c1ca1cfa63156991fbb1362f74747a77f76101b47af9f8938b1ee8ecc91", func := "krait/kraitlaw13.CollectReached", spec := "collectReached", unfollowed := true, recurses := true, plainKeys := false, apart := false, narrowed := true }
def CollectReachedUptoSaid : Prop := collectReachedUptoRow.holds Try.pinned (OpenSpec.upto collectReachedSpec)

/-- 'kraitlaw13.CollectGarbage', WHERE WHAT IT READS IS OF BULK AT MOST 1048576: true; the input reads as it did. -/
def collectGarbageUptoRow : OpenClaim := { program := "ytjinabglachglaa", sum := "93902c1ca1cfa63156991fbb1362f74747a77f76101b47af9f8938b1ee8ecc91", func := "krait/kraitlaw13.CollectGarbage", spec := "collectGarbage", unfollowed := true, recurses := true, plainKeys := false, apart := false, narrowed := true }
def CollectGarbageUptoSaid : Prop := collectGarbageUptoRow.holds Try.pinned (OpenSpec.upto collectGarbageSpec)

/-- 'kraitlaw13.CollectRing', WHERE WHAT IT READS IS OF BULK AT MOST 1048576: true; the input reads as it did. -/
def collectRingUptoRow : OpenClaim := { program := "ytjinabglachglaa", sum := "93902c1ca1cfa63156991fbb1362f74747a77f76101b47af9f8938b1ee8ecc91", func := "krait/kraitlaw13.CollectRing", spec := "collectRing", unfollowed := true, recurses := true, plainKeys := false, apart := false, narrowed := true }
def CollectRingUptoSaid : Prop := collectRingUptoRow.holds Try.pinned (OpenSpec.upto collectRingSpec)

/-- 'kraitlaw13.CollectMore', WHERE WHAT IT READS IS OF BULK AT MOST 1048576: true; the input reads as it did. -/
def collectMoreUptoRow : OpenClaim := { program := "ytjinabglachglaa", sum := "93902c1ca1cfa63156991fbb1362f74747a77f76101b47af9f8938b1ee8ecc91", func := "krait/kraitlaw13.CollectMore", spec := "collectMore", unfollowed := true, recurses := true, plainKeys := false, apart := false, narrowed := true }
def CollectMoreUptoSaid : Prop := collectMoreUptoRow.holds Try.pinned (OpenSpec.upto collectMoreSpec)

/-- 'kraitlaw13.CollectParts', WHERE WHAT IT READS IS OF BULK AT MOST 1048576: true; the input reads as it did. -/
def collectPartsUptoRow : OpenClaim := { program := "ytjinabglachglaa", sum := "93902c1ca1cfa63156991fbb1362f74747a77f76101b47af9f8938b1ee8ecc91", func := "krait/kraitlaw13.CollectParts", spec := "collectParts", unfollowed := true, recurses := true, plainKeys := false, apart := false, narrowed := true }
def CollectPartsUptoSaid : Prop := collectPartsUptoRow.holds Try.pinned (OpenSpec.upto collectPartsSpec)

/-- 'kraitlaw13.CollectGoes', WHERE WHAT IT READS IS OF BULK AT MOST 1048576: true; the input reads as it did. -/
def collectGoesUptoRow : OpenClaim := { program := "ytjinabglachglaa", sum := "93902c1ca1cfa63156991fbb1362f74747a77f76101b47af9f8938b1ee8ecc91", func := "krait/kraitlaw13.CollectGoes", spec := "collectGoes", unfollowed := true, recurses := true, plainKeys := false, apart := false, narrowed := true }
def CollectGoesUptoSaid : Prop := collectGoesUptoRow.holds Try.pinned (OpenSpec.upto collectGoesSpec)

/-- 'kraitlaw13.CollectLeft', WHERE WHAT IT READS IS OF BULK AT MOST 1048576: true; the input reads as it did. -/
def collectLeftUptoRow : OpenClaim := { program := "ytjinabglachglaa", sum := "93902c1ca1cfa63156991fbb1362f74747a77f76101b47af9f8938b1ee8ecc91", func := "krait/kraitlaw13.CollectLeft", spec := "collectLeft", unfollowed := true, recurses := true, plainKeys := false, apart := false, narrowed := true }
def CollectLeftUptoSaid : Prop := collectLeftUptoRow.holds Try.pinned (OpenSpec.upto collectLeftSpec)

/-- 'kraitlaw13.CollectAll', WHERE WHAT IT READS IS OF BULK AT MOST 1048576: true; the input reads as it did. -/
def collectAllUptoRow : OpenClaim := { program := "ytjinabglachglaa", sum := "93902c1ca1cfa63156991fbb1362f74747a77f76101b47af9f8938b1ee8ecc91", func := "krait/kraitlaw13.CollectAll", spec := "collectAll", unfollowed := true, recurses := true, plainKeys := false, apart := false, narrowed := true }
def CollectAllUptoSaid : Prop := collectAllUptoRow.holds Try.pinned (OpenSpec.upto collectAllSpec)

end Rows
end Go.Proofs.Ytjinabglachglaa
