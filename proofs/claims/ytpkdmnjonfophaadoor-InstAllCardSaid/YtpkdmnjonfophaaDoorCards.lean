/-
  DERIVED. GIVEN WITH THE SEED: THE CARDS: each row of YtpkdmnjonfophaaDoorRows.lean that lists a variable, with what it lists TIED to the program's text (the seventh form; the later family's looks); each row that meets fmt, with fmt's text TOLD by the authors' own Lean function (tested against real Go, not proved from fmt's source: count such statements apart). THE CARD IS WHAT COUNTS. Prove the row's statement (the work); the ties are given (YtpkdmnjonfophaaDoorTie.lean); close each card by the builder's one call (the guide's Derived/Test/ToyasCard.lean, 'card_holds'). Laid BY PROGRAM, IN A SANDBOX (cutbox-door.mjs). By AI agents, Wed Nov 11 2026. No macro, syntax, notation, axiom, sorry.
-/
import Derived.Test.YtpkdmnjonfophaaDoorRows
import GoSem.ClaimSeven
namespace Go.Proofs.YtpkdmnjonfophaaDoor
namespace Rows

/-- THE TIED CARD OF 'crossroadslaw9.InstKnows'. -/
def instKnowsCard : Claim7 := { stood := { row := instKnowsRow, standIns := [], harness := (true, "a51f58a1890e61f74b61a0e227423d48ec743d990b0975d19e2bd535df6871aa"), looks := false }, kinds := [], alts := [], laidByText := true, laidKinds := [.listed, .data], laidTests := true, laidLooks := .later }
def InstKnowsCardSaid : Prop := Claim7.holds Tryd.pinned (.plain (OpenSpec.ofChange instKnowsSpec)) instKnowsCard

/-- THE TIED CARD OF 'crossroadslaw9.InstAll'. -/
def instAllCard : Claim7 := { stood := { row := instAllRow, standIns := [], harness := (true, "a51f58a1890e61f74b61a0e227423d48ec743d990b0975d19e2bd535df6871aa"), looks := false }, kinds := [], alts := [], laidByText := true, laidKinds := [.listed, .data], laidTests := true, laidLooks := .later }
def InstAllCardSaid : Prop := Claim7.holds Tryd.pinned (.plain (OpenSpec.ofChange instAllSpec)) instAllCard

/-- THE TIED CARD OF 'crossroadslaw9.InstNames'. -/
def instNamesCard : Claim7 := { stood := { row := instNamesRow, standIns := [], harness := (true, "a51f58a1890e61f74b61a0e227423d48ec743d990b0975d19e2bd535df6871aa"), looks := false }, kinds := [], alts := [], laidByText := true, laidKinds := [.listed, .data], laidTests := true, laidLooks := .later }
def InstNamesCardSaid : Prop := Claim7.holds Tryd.pinned (.plain (OpenSpec.ofChange instNamesSpec)) instNamesCard

/-- THE TIED CARD OF 'crossroadslaw9.InstHeights'. -/
def instHeightsCard : Claim7 := { stood := { row := instHeightsRow, standIns := [], harness := (true, "a51f58a1890e61f74b61a0e227423d48ec743d990b0975d19e2bd535df6871aa"), looks := false }, kinds := [], alts := [], laidByText := true, laidKinds := [.listed, .data], laidTests := true, laidLooks := .later }
def InstHeightsCardSaid : Prop := Claim7.holds Tryd.pinned (.plain (OpenSpec.ofChange instHeightsSpec)) instHeightsCard

/-- THE SECOND FORM's CARD OF 'crossroadslaw9.InstKnows'. -/
def instKnowsUptoCard : Claim7 := { stood := { row := instKnowsUptoRow, standIns := [], harness := (true, "a51f58a1890e61f74b61a0e227423d48ec743d990b0975d19e2bd535df6871aa"), looks := false }, kinds := [], alts := [], laidByText := true, laidKinds := [.listed, .data], laidTests := true, laidLooks := .later }
def InstKnowsUptoCardSaid : Prop := Claim7.holds Tryd.pinned (.plain (OpenSpec.upto instKnowsSpec)) instKnowsUptoCard

/-- THE SECOND FORM's CARD OF 'crossroadslaw9.InstAll'. -/
def instAllUptoCard : Claim7 := { stood := { row := instAllUptoRow, standIns := [], harness := (true, "a51f58a1890e61f74b61a0e227423d48ec743d990b0975d19e2bd535df6871aa"), looks := false }, kinds := [], alts := [], laidByText := true, laidKinds := [.listed, .data], laidTests := true, laidLooks := .later }
def InstAllUptoCardSaid : Prop := Claim7.holds Tryd.pinned (.plain (OpenSpec.upto instAllSpec)) instAllUptoCard

/-- THE SECOND FORM's CARD OF 'crossroadslaw9.InstNames'. -/
def instNamesUptoCard : Claim7 := { stood := { row := instNamesUptoRow, standIns := [], harness := (true, "a51f58a1890e61f74b61a0e227423d48ec743d990b0975d19e2bd535df6871aa"), looks := false }, kinds := [], alts := [], laidByText := true, laidKinds := [.listed, .data], laidTests := true, laidLooks := .later }
def InstNamesUptoCardSaid : Prop := Claim7.holds Tryd.pinned (.plain (OpenSpec.upto instNamesSpec)) instNamesUptoCard

/-- THE SECOND FORM's CARD OF 'crossroadslaw9.InstHeights'. -/
def instHeightsUptoCard : Claim7 := { stood := { row := instHeightsUptoRow, standIns := [], harness := (true, "a51f58a1890e61f74b61a0e227423d48ec743d990b0975d19e2bd535df6871aa"), looks := false }, kinds := [], alts := [], laidByText := true, laidKinds := [.listed, .data], laidTests := true, laidLooks := .later }
def InstHeightsUptoCardSaid : Prop := Claim7.holds Tryd.pinned (.plain (OpenSpec.upto instHeightsSpec)) instHeightsUptoCard
end Rows
end Go.Proofs.YtpkdmnjonfophaaDoor
