/-
  DERIVED. GIVEN WITH THE SEED: THE CARDS: each row of YtobcnffjfclolaaDoorRows.lean that lists a variable, with what it lists TIED to the program's text (the seventh form; the later family's looks); each row that meets fmt, with fmt's text TOLD by the authors' own Lean function (tested against real Go, not proved from fmt's source: count such statements apart). THE CARD IS WHAT COUNTS. Prove the row's statement (the work); the ties are given (YtobcnffjfclolaaDoorTie.lean); close each card by the builder's one call (the guide's Derived/Test/ToyasCard.lean, 'card_holds'). Laid BY PROGRAM, IN A SANDBOX (cutbox-door.mjs). By AI agents, Wed Nov 11 2026. No macro, syntax, notation, axiom, sorry.
-/
import Derived.Test.YtobcnffjfclolaaDoorRows
import GoSem.ClaimSeven
namespace Go.Proofs.YtobcnffjfclolaaDoor
namespace Rows

/-- THE TIED CARD OF 'kraitlaw15.FaultNames'. -/
def faultNamesCard : Claim7 := { stood := { row := faultNamesRow, standIns := [], harness := (true, "76802724858c8fff65cf0eb44233b57d22d5402fff13b88a971fbe09619a26b6"), looks := false }, kinds := [], alts := [], laidByText := true, laidKinds := [.listed, .data], laidTests := true, laidLooks := .later }
def FaultNamesCardSaid : Prop := Claim7.holds Tryd.pinned (.plain (OpenSpec.ofChange faultNamesSpec)) faultNamesCard

/-- THE TIED CARD OF 'kraitlaw15.FaultChains'. -/
def faultChainsCard : Claim7 := { stood := { row := faultChainsRow, standIns := [], harness := (true, "76802724858c8fff65cf0eb44233b57d22d5402fff13b88a971fbe09619a26b6"), looks := false }, kinds := [], alts := [], laidByText := true, laidKinds := [.listed, .data], laidTests := true, laidLooks := .later }
def FaultChainsCardSaid : Prop := Claim7.holds Tryd.pinned (.plain (OpenSpec.ofChange faultChainsSpec)) faultChainsCard

/-- THE TIED CARD OF 'kraitlaw15.FaultTuples'. -/
def faultTuplesCard : Claim7 := { stood := { row := faultTuplesRow, standIns := [], harness := (true, "76802724858c8fff65cf0eb44233b57d22d5402fff13b88a971fbe09619a26b6"), looks := false }, kinds := [], alts := [], laidByText := true, laidKinds := [.listed, .data], laidTests := true, laidLooks := .later }
def FaultTuplesCardSaid : Prop := Claim7.holds Tryd.pinned (.plain (OpenSpec.ofChange faultTuplesSpec)) faultTuplesCard

/-- THE TIED CARD OF 'kraitlaw15.FaultOwn'. -/
def faultOwnCard : Claim7 := { stood := { row := faultOwnRow, standIns := [], harness := (true, "76802724858c8fff65cf0eb44233b57d22d5402fff13b88a971fbe09619a26b6"), looks := false }, kinds := [], alts := [], laidByText := true, laidKinds := [.listed, .data], laidTests := true, laidLooks := .later }
def FaultOwnCardSaid : Prop := Claim7.holds Tryd.pinned (.plain (OpenSpec.ofChange faultOwnSpec)) faultOwnCard

/-- THE TIED CARD OF 'kraitlaw15.FaultArgs'. -/
def faultArgsCard : Claim7 := { stood := { row := faultArgsRow, standIns := [], harness := (true, "76802724858c8fff65cf0eb44233b57d22d5402fff13b88a971fbe09619a26b6"), looks := false }, kinds := [], alts := [], laidByText := true, laidKinds := [.listed, .data], laidTests := true, laidLooks := .later }
def FaultArgsCardSaid : Prop := Claim7.holds Tryd.pinned (.plain (OpenSpec.ofChange faultArgsSpec)) faultArgsCard

/-- THE SECOND FORM's CARD OF 'kraitlaw15.FaultNames'. -/
def faultNamesUptoCard : Claim7 := { stood := { row := faultNamesUptoRow, standIns := [], harness := (true, "76802724858c8fff65cf0eb44233b57d22d5402fff13b88a971fbe09619a26b6"), looks := false }, kinds := [], alts := [], laidByText := true, laidKinds := [.listed, .data], laidTests := true, laidLooks := .later }
def FaultNamesUptoCardSaid : Prop := Claim7.holds Tryd.pinned (.plain (OpenSpec.upto faultNamesSpec)) faultNamesUptoCard

/-- THE SECOND FORM's CARD OF 'kraitlaw15.FaultChains'. -/
def faultChainsUptoCard : Claim7 := { stood := { row := faultChainsUptoRow, standIns := [], harness := (true, "76802724858c8fff65cf0eb44233b57d22d5402fff13b88a971fbe09619a26b6"), looks := false }, kinds := [], alts := [], laidByText := true, laidKinds := [.listed, .data], laidTests := true, laidLooks := .later }
def FaultChainsUptoCardSaid : Prop := Claim7.holds Tryd.pinned (.plain (OpenSpec.upto faultChainsSpec)) faultChainsUptoCard

/-- THE SECOND FORM's CARD OF 'kraitlaw15.FaultTuples'. -/
def faultTuplesUptoCard : Claim7 := { stood := { row := faultTuplesUptoRow, standIns := [], harness := (true, "76802724858c8fff65cf0eb44233b57d22d5402fff13b88a971fbe09619a26b6"), looks := false }, kinds := [], alts := [], laidByText := true, laidKinds := [.listed, .data], laidTests := true, laidLooks := .later }
def FaultTuplesUptoCardSaid : Prop := Claim7.holds Tryd.pinned (.plain (OpenSpec.upto faultTuplesSpec)) faultTuplesUptoCard

/-- THE SECOND FORM's CARD OF 'kraitlaw15.FaultOwn'. -/
def faultOwnUptoCard : Claim7 := { stood := { row := faultOwnUptoRow, standIns := [], harness := (true, "76802724858c8fff65cf0eb44233b57d22d5402fff13b88a971fbe09619a26b6"), looks := false }, kinds := [], alts := [], laidByText := true, laidKinds := [.listed, .data], laidTests := true, laidLooks := .later }
def FaultOwnUptoCardSaid : Prop := Claim7.holds Tryd.pinned (.plain (OpenSpec.upto faultOwnSpec)) faultOwnUptoCard

/-- THE SECOND FORM's CARD OF 'kraitlaw15.FaultArgs'. -/
def faultArgsUptoCard : Claim7 := { stood := { row := faultArgsUptoRow, standIns := [], harness := (true, "76802724858c8fff65cf0eb44233b57d22d5402fff13b88a971fbe09619a26b6"), looks := false }, kinds := [], alts := [], laidByText := true, laidKinds := [.listed, .data], laidTests := true, laidLooks := .later }
def FaultArgsUptoCardSaid : Prop := Claim7.holds Tryd.pinned (.plain (OpenSpec.upto faultArgsSpec)) faultArgsUptoCard
end Rows
end Go.Proofs.YtobcnffjfclolaaDoor
