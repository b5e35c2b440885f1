/-
  DERIVED. GIVEN WITH THE SEED: THE CARDS: each row of YtlnogacjebbepaaDoorRows.lean that lists a variable, with what it lists TIED to the program's text (the seventh form; the later family's looks); each row that meets fmt, with fmt's text TOLD by the authors' own Lean function (tested against real Go, not proved from fmt's source: count such statements apart). THE CARD IS WHAT COUNTS. Prove the row's statement (the work); the ties are given (YtlnogacjebbepaaDoorTie.lean); close each card by the builder's one call (the guide's Derived/Test/ToyasCard.lean, 'card_holds'). Laid BY PROGRAM, IN A SANDBOX (cutbox-door.mjs). By AI agents, Wed Nov 11 2026. No macro, syntax, notation, axiom, sorry.
-/
import Derived.Test.YtlnogacjebbepaaDoorRows
import GoSem.ClaimSeven
namespace Go.Proofs.YtlnogacjebbepaaDoor
namespace Rows

/-- THE TIED CARD OF 'crossroadslaw22.TarWrites'. -/
def tarWritesCard : Claim7 := { stood := { row := tarWritesRow, standIns := [], harness := (true, "e990747f460cc296a9267d397b42d1e4c5b39ed4191d405b70b654248264393a"), looks := false }, kinds := [], alts := [], laidByText := true, laidKinds := [.data, .pinned], laidTests := true, laidLooks := .later }
def TarWritesCardSaid : Prop := Claim7.holds Tryd.pinned (.plain (OpenSpec.ofChange tarWritesSpec)) tarWritesCard

/-- THE TIED CARD OF 'crossroadslaw22.TarReads'. -/
def tarReadsCard : Claim7 := { stood := { row := tarReadsRow, standIns := [], harness := (true, "e990747f460cc296a9267d397b42d1e4c5b39ed4191d405b70b654248264393a"), looks := false }, kinds := [], alts := [], laidByText := true, laidKinds := [.data, .pinned], laidTests := true, laidLooks := .later }
def TarReadsCardSaid : Prop := Claim7.holds Tryd.pinned (.plain (OpenSpec.ofChange tarReadsSpec)) tarReadsCard

/-- THE TIED CARD OF 'crossroadslaw22.TarSums'. -/
def tarSumsCard : Claim7 := { stood := { row := tarSumsRow, standIns := [], harness := (true, "e990747f460cc296a9267d397b42d1e4c5b39ed4191d405b70b654248264393a"), looks := false }, kinds := [], alts := [], laidByText := true, laidKinds := [.data, .pinned], laidTests := true, laidLooks := .later }
def TarSumsCardSaid : Prop := Claim7.holds Tryd.pinned (.plain (OpenSpec.ofChange tarSumsSpec)) tarSumsCard

/-- THE TIED CARD OF 'crossroadslaw22.TarJoins'. -/
def tarJoinsCard : Claim7 := { stood := { row := tarJoinsRow, standIns := [], harness := (true, "e990747f460cc296a9267d397b42d1e4c5b39ed4191d405b70b654248264393a"), looks := false }, kinds := [], alts := [], laidByText := true, laidKinds := [.data, .pinned], laidTests := true, laidLooks := .later }
def TarJoinsCardSaid : Prop := Claim7.holds Tryd.pinned (.plain (OpenSpec.ofChange tarJoinsSpec)) tarJoinsCard

/-- THE TIED CARD OF 'crossroadslaw22.TarBytes'. -/
def tarBytesCard : Claim7 := { stood := { row := tarBytesRow, standIns := [], harness := (true, "e990747f460cc296a9267d397b42d1e4c5b39ed4191d405b70b654248264393a"), looks := false }, kinds := [], alts := [], laidByText := true, laidKinds := [.data, .pinned], laidTests := true, laidLooks := .later }
def TarBytesCardSaid : Prop := Claim7.holds Tryd.pinned (.plain (OpenSpec.ofChange tarBytesSpec)) tarBytesCard

/-- THE SECOND FORM's CARD OF 'crossroadslaw22.TarWrites'. -/
def tarWritesUptoCard : Claim7 := { stood := { row := tarWritesUptoRow, standIns := [], harness := (true, "e990747f460cc296a9267d397b42d1e4c5b39ed4191d405b70b654248264393a"), looks := false }, kinds := [], alts := [], laidByText := true, laidKinds := [.data, .pinned], laidTests := true, laidLooks := .later }
def TarWritesUptoCardSaid : Prop := Claim7.holds Tryd.pinned (.plain (OpenSpec.upto tarWritesSpec)) tarWritesUptoCard

/-- THE SECOND FORM's CARD OF 'crossroadslaw22.TarReads'. -/
def tarReadsUptoCard : Claim7 := { stood := { row := tarReadsUptoRow, standIns := [], harness := (true, "e990747f460cc296a9267d397b42d1e4c5b39ed4191d405b70b654248264393a"), looks := false }, kinds := [], alts := [], laidByText := true, laidKinds := [.data, .pinned], laidTests := true, laidLooks := .later }
def TarReadsUptoCardSaid : Prop := Claim7.holds Tryd.pinned (.plain (OpenSpec.upto tarReadsSpec)) tarReadsUptoCard

/-- THE SECOND FORM's CARD OF 'crossroadslaw22.TarSums'. -/
def tarSumsUptoCard : Claim7 := { stood := { row := tarSumsUptoRow, standIns := [], harness := (true, "e990747f460cc296a9267d397b42d1e4c5b39ed4191d405b70b654248264393a"), looks := false }, kinds := [], alts := [], laidByText := true, laidKinds := [.data, .pinned], laidTests := true, laidLooks := .later }
def TarSumsUptoCardSaid : Prop := Claim7.holds Tryd.pinned (.plain (OpenSpec.upto tarSumsSpec)) tarSumsUptoCard

/-- THE SECOND FORM's CARD OF 'crossroadslaw22.TarJoins'. -/
def tarJoinsUptoCard : Claim7 := { stood := { row := tarJoinsUptoRow, standIns := [], harness := (true, "e990747f460cc296a9267d397b42d1e4c5b39ed4191d405b70b654248264393a"), looks := false }, kinds := [], alts := [], laidByText := true, laidKinds := [.data, .pinned], laidTests := true, laidLooks := .later }
def TarJoinsUptoCardSaid : Prop := Claim7.holds Tryd.pinned (.plain (OpenSpec.upto tarJoinsSpec)) tarJoinsUptoCard

/-- THE SECOND FORM's CARD OF 'crossroadslaw22.TarBytes'. -/
def tarBytesUptoCard : Claim7 := { stood := { row := tarBytesUptoRow, standIns := [], harness := (true, "e990747f460cc296a9267d397b42d1e4c5b39ed4191d405b70b654248264393a"), looks := false }, kinds := [], alts := [], laidByText := true, laidKinds := [.data, .pinned], laidTests := true, laidLooks := .later }
def TarBytesUptoCardSaid : Prop := Claim7.holds Tryd.pinned (.plain (OpenSpec.upto tarBytesSpec)) tarBytesUptoCard
end Rows
end Go.Proofs.YtlnogacjebbepaaDoor
