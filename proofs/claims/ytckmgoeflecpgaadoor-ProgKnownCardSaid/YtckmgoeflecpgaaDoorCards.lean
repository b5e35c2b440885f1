/-
  DERIVED. GIVEN WITH THE SEED: THE CARDS: each row of YtckmgoeflecpgaaDoorRows.lean that lists a variable, with what it lists TIED to the program's text (the seventh form; the later family's looks); each row that meets fmt, with fmt's text TOLD by the authors' own Lean function (tested against real Go, not proved from fmt's source: count such statements apart). THE CARD IS WHAT COUNTS. Prove the row's statement (the work); the ties are given (YtckmgoeflecpgaaDoorTie.lean); close each card by the builder's one call (the guide's Derived/Test/ToyasCard.lean, 'card_holds'). Laid BY PROGRAM, IN A SANDBOX (cutbox-door.mjs). By AI agents, Wed Nov 11 2026. No macro, syntax, notation, axiom, sorry.
-/
import Derived.Test.YtckmgoeflecpgaaDoorRows
import GoSem.ClaimSeven
namespace Go.Proofs.YtckmgoeflecpgaaDoor
namespace Rows

/-- THE TIED CARD OF 'crossroadslaw10.ProgBytes'. -/
def progBytesCard : Claim7 := { stood := { row := progBytesRow, standIns := [], harness := (true, "e5e2d01f5befd23c44695180e3d63b6e9f09bcade7fac214f9c08069a72bd554"), looks := false }, kinds := [], alts := [], laidByText := true, laidKinds := [.data, .data, .data, .listed, .data], laidTests := true, laidLooks := .later }
def ProgBytesCardSaid : Prop := Claim7.holds Tryd.pinned (.plain (OpenSpec.ofChange progBytesSpec)) progBytesCard

/-- THE TIED CARD OF 'crossroadslaw10.ProgReads'. -/
def progReadsCard : Claim7 := { stood := { row := progReadsRow, standIns := [], harness := (true, "e5e2d01f5befd23c44695180e3d63b6e9f09bcade7fac214f9c08069a72bd554"), looks := false }, kinds := [], alts := [], laidByText := true, laidKinds := [.data, .data, .data, .listed, .data], laidTests := true, laidLooks := .later }
def ProgReadsCardSaid : Prop := Claim7.holds Tryd.pinned (.plain (OpenSpec.ofChange progReadsSpec)) progReadsCard

/-- THE TIED CARD OF 'crossroadslaw10.ProgTexts'. -/
def progTextsCard : Claim7 := { stood := { row := progTextsRow, standIns := [], harness := (true, "e5e2d01f5befd23c44695180e3d63b6e9f09bcade7fac214f9c08069a72bd554"), looks := false }, kinds := [], alts := [], laidByText := true, laidKinds := [.data, .data, .data, .listed, .data], laidTests := true, laidLooks := .later }
def ProgTextsCardSaid : Prop := Claim7.holds Tryd.pinned (.plain (OpenSpec.ofChange progTextsSpec)) progTextsCard

/-- THE TIED CARD OF 'crossroadslaw10.ProgKnown'. -/
def progKnownCard : Claim7 := { stood := { row := progKnownRow, standIns := [], harness := (true, "e5e2d01f5befd23c44695180e3d63b6e9f09bcade7fac214f9c08069a72bd554"), looks := false }, kinds := [], alts := [], laidByText := true, laidKinds := [.data, .data, .data, .listed, .data], laidTests := true, laidLooks := .later }
def ProgKnownCardSaid : Prop := Claim7.holds Tryd.pinned (.plain (OpenSpec.ofChange progKnownSpec)) progKnownCard

/-- THE TIED CARD OF 'crossroadslaw10.ProgApart'. -/
def progApartCard : Claim7 := { stood := { row := progApartRow, standIns := [], harness := (true, "e5e2d01f5befd23c44695180e3d63b6e9f09bcade7fac214f9c08069a72bd554"), looks := false }, kinds := [], alts := [], laidByText := true, laidKinds := [.data, .data, .data, .listed, .data], laidTests := true, laidLooks := .later }
def ProgApartCardSaid : Prop := Claim7.holds Tryd.pinned (.plain (OpenSpec.ofChange progApartSpec)) progApartCard

/-- THE TIED CARD OF 'crossroadslaw10.ProgCuts'. -/
def progCutsCard : Claim7 := { stood := { row := progCutsRow, standIns := [], harness := (true, "e5e2d01f5befd23c44695180e3d63b6e9f09bcade7fac214f9c08069a72bd554"), looks := false }, kinds := [], alts := [], laidByText := true, laidKinds := [.data, .data, .data, .listed, .data], laidTests := true, laidLooks := .later }
def ProgCutsCardSaid : Prop := Claim7.holds Tryd.pinned (.plain (OpenSpec.ofChange progCutsSpec)) progCutsCard

/-- THE TIED CARD OF 'crossroadslaw10.ProgNames'. -/
def progNamesCard : Claim7 := { stood := { row := progNamesRow, standIns := [], harness := (true, "e5e2d01f5befd23c44695180e3d63b6e9f09bcade7fac214f9c08069a72bd554"), looks := false }, kinds := [], alts := [], laidByText := true, laidKinds := [.data, .data, .data, .listed, .data], laidTests := true, laidLooks := .later }
def ProgNamesCardSaid : Prop := Claim7.holds Tryd.pinned (.plain (OpenSpec.ofChange progNamesSpec)) progNamesCard

/-- THE SECOND FORM's CARD OF 'crossroadslaw10.ProgBytes'. -/
def progBytesUptoCard : Claim7 := { stood := { row := progBytesUptoRow, standIns := [], harness := (true, "e5e2d01f5befd23c44695180e3d63b6e9f09bcade7fac214f9c08069a72bd554"), looks := false }, kinds := [], alts := [], laidByText := true, laidKinds := [.data, .data, .data, .listed, .data], laidTests := true, laidLooks := .later }
def ProgBytesUptoCardSaid : Prop := Claim7.holds Tryd.pinned (.plain (OpenSpec.upto progBytesSpec)) progBytesUptoCard

/-- THE SECOND FORM's CARD OF 'crossroadslaw10.ProgReads'. -/
def progReadsUptoCard : Claim7 := { stood := { row := progReadsUptoRow, standIns := [], harness := (true, "e5e2d01f5befd23c44695180e3d63b6e9f09bcade7fac214f9c08069a72bd554"), looks := false }, kinds := [], alts := [], laidByText := true, laidKinds := [.data, .data, .data, .listed, .data], laidTests := true, laidLooks := .later }
def ProgReadsUptoCardSaid : Prop := Claim7.holds Tryd.pinned (.plain (OpenSpec.upto progReadsSpec)) progReadsUptoCard

/-- THE SECOND FORM's CARD OF 'crossroadslaw10.ProgTexts'. -/
def progTextsUptoCard : Claim7 := { stood := { row := progTextsUptoRow, standIns := [], harness := (true, "e5e2d01f5befd23c44695180e3d63b6e9f09bcade7fac214f9c08069a72bd554"), looks := false }, kinds := [], alts := [], laidByText := true, laidKinds := [.data, .data, .data, .listed, .data], laidTests := true, laidLooks := .later }
def ProgTextsUptoCardSaid : Prop := Claim7.holds Tryd.pinned (.plain (OpenSpec.upto progTextsSpec)) progTextsUptoCard

/-- THE SECOND FORM's CARD OF 'crossroadslaw10.ProgKnown'. -/
def progKnownUptoCard : Claim7 := { stood := { row := progKnownUptoRow, standIns := [], harness := (true, "e5e2d01f5befd23c44695180e3d63b6e9f09bcade7fac214f9c08069a72bd554"), looks := false }, kinds := [], alts := [], laidByText := true, laidKinds := [.data, .data, .data, .listed, .data], laidTests := true, laidLooks := .later }
def ProgKnownUptoCardSaid : Prop := Claim7.holds Tryd.pinned (.plain (OpenSpec.upto progKnownSpec)) progKnownUptoCard

/-- THE SECOND FORM's CARD OF 'crossroadslaw10.ProgApart'. -/
def progApartUptoCard : Claim7 := { stood := { row := progApartUptoRow, standIns := [], harness := (true, "e5e2d01f5befd23c44695180e3d63b6e9f09bcade7fac214f9c08069a72bd554"), looks := false }, kinds := [], alts := [], laidByText := true, laidKinds := [.data, .data, .data, .listed, .data], laidTests := true, laidLooks := .later }
def ProgApartUptoCardSaid : Prop := Claim7.holds Tryd.pinned (.plain (OpenSpec.upto progApartSpec)) progApartUptoCard

/-- THE SECOND FORM's CARD OF 'crossroadslaw10.ProgCuts'. -/
def progCutsUptoCard : Claim7 := { stood := { row := progCutsUptoRow, standIns := [], harness := (true, "e5e2d01f5befd23c44695180e3d63b6e9f09bcade7fac214f9c08069a72bd554"), looks := false }, kinds := [], alts := [], laidByText := true, laidKinds := [.data, .data, .data, .listed, .data], laidTests := true, laidLooks := .later }
def ProgCutsUptoCardSaid : Prop := Claim7.holds Tryd.pinned (.plain (OpenSpec.upto progCutsSpec)) progCutsUptoCard

/-- THE SECOND FORM's CARD OF 'crossroadslaw10.ProgNames'. -/
def progNamesUptoCard : Claim7 := { stood := { row := progNamesUptoRow, standIns := [], harness := (true, "e5e2d01f5befd23c44695180e3d63b6e9f09bcade7fac214f9c08069a72bd554"), looks := false }, kinds := [], alts := [], laidByText := true, laidKinds := [.data, .data, .data, .listed, .data], laidTests := true, laidLooks := .later }
def ProgNamesUptoCardSaid : Prop := Claim7.holds Tryd.pinned (.plain (OpenSpec.upto progNamesSpec)) progNamesUptoCard
end Rows
end Go.Proofs.YtckmgoeflecpgaaDoor
