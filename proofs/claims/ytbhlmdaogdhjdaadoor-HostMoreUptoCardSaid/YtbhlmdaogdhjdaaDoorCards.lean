/-
  DERIVED. GIVEN WITH THE SEED: THE CARDS: each row of YtbhlmdaogdhjdaaDoorRows.lean that lists a variable, with what it lists TIED to the program's text (the seventh form; the later family's looks); each row that meets fmt, with fmt's text TOLD by the authors' own Lean function (tested against real Go, not proved from fmt's source: count such statements apart). THE CARD IS WHAT COUNTS. Prove the row's statement (the work); the ties are given (YtbhlmdaogdhjdaaDoorTie.lean); close each card by the builder's one call (the guide's Derived/Test/ToyasCard.lean, 'card_holds'). Laid BY PROGRAM, IN A SANDBOX (cutbox-door.mjs). By AI agents, Wed Nov 11 2026. No macro, syntax, notation, axiom, sorry.
-/
import Derived.Test.YtbhlmdaogdhjdaaDoorRows
import GoSem.ClaimSeven
namespace Go.Proofs.YtbhlmdaogdhjdaaDoor
namespace Rows

/-- THE TIED CARD OF 'glacislaw02.HostNames'. -/
def hostNamesCard : Claim7 := { stood := { row := hostNamesRow, standIns := [], harness := (true, "0cdef6c97c46c832a74cb43e9d658fd35811a3d81dc2e35f048344eddba1f885"), looks := false }, kinds := [], alts := [], laidByText := true, laidKinds := [.data, .data, .data], laidTests := true, laidLooks := .later }
def HostNamesCardSaid : Prop := Claim7.holds Tryd.pinned (.plain (OpenSpec.ofChange hostNamesSpec)) hostNamesCard

/-- THE TIED CARD OF 'glacislaw02.HostReads'. -/
def hostReadsCard : Claim7 := { stood := { row := hostReadsRow, standIns := [], harness := (true, "0cdef6c97c46c832a74cb43e9d658fd35811a3d81dc2e35f048344eddba1f885"), looks := false }, kinds := [], alts := [], laidByText := true, laidKinds := [.data, .data, .data], laidTests := true, laidLooks := .later }
def HostReadsCardSaid : Prop := Claim7.holds Tryd.pinned (.plain (OpenSpec.ofChange hostReadsSpec)) hostReadsCard

/-- THE TIED CARD OF 'glacislaw02.HostTells'. -/
def hostTellsCard : Claim7 := { stood := { row := hostTellsRow, standIns := [], harness := (true, "0cdef6c97c46c832a74cb43e9d658fd35811a3d81dc2e35f048344eddba1f885"), looks := false }, kinds := [], alts := [], laidByText := true, laidKinds := [.data, .data, .data], laidTests := true, laidLooks := .later }
def HostTellsCardSaid : Prop := Claim7.holds Tryd.pinned (.plain (OpenSpec.ofChange hostTellsSpec)) hostTellsCard

/-- THE TIED CARD OF 'glacislaw02.HostBack'. -/
def hostBackCard : Claim7 := { stood := { row := hostBackRow, standIns := [], harness := (true, "0cdef6c97c46c832a74cb43e9d658fd35811a3d81dc2e35f048344eddba1f885"), looks := false }, kinds := [], alts := [], laidByText := true, laidKinds := [.data, .data, .data], laidTests := true, laidLooks := .later }
def HostBackCardSaid : Prop := Claim7.holds Tryd.pinned (.plain (OpenSpec.ofChange hostBackSpec)) hostBackCard

/-- THE TIED CARD OF 'glacislaw02.HostEnds'. -/
def hostEndsCard : Claim7 := { stood := { row := hostEndsRow, standIns := [], harness := (true, "0cdef6c97c46c832a74cb43e9d658fd35811a3d81dc2e35f048344eddba1f885"), looks := false }, kinds := [], alts := [], laidByText := true, laidKinds := [.data, .data, .data], laidTests := true, laidLooks := .later }
def HostEndsCardSaid : Prop := Claim7.holds Tryd.pinned (.plain (OpenSpec.ofChange hostEndsSpec)) hostEndsCard

/-- THE TIED CARD OF 'glacislaw02.HostMore'. -/
def hostMoreCard : Claim7 := { stood := { row := hostMoreRow, standIns := [], harness := (true, "0cdef6c97c46c832a74cb43e9d658fd35811a3d81dc2e35f048344eddba1f885"), looks := false }, kinds := [], alts := [], laidByText := true, laidKinds := [.data, .data, .data], laidTests := true, laidLooks := .later }
def HostMoreCardSaid : Prop := Claim7.holds Tryd.pinned (.plain (OpenSpec.ofChange hostMoreSpec)) hostMoreCard

/-- THE TIED CARD OF 'glacislaw02.HostOrder'. -/
def hostOrderCard : Claim7 := { stood := { row := hostOrderRow, standIns := [], harness := (true, "0cdef6c97c46c832a74cb43e9d658fd35811a3d81dc2e35f048344eddba1f885"), looks := false }, kinds := [], alts := [], laidByText := true, laidKinds := [.data, .data, .data], laidTests := true, laidLooks := .later }
def HostOrderCardSaid : Prop := Claim7.holds Tryd.pinned (.plain (OpenSpec.ofChange hostOrderSpec)) hostOrderCard

/-- THE TIED CARD OF 'glacislaw02.HostNumbers'. -/
def hostNumbersCard : Claim7 := { stood := { row := hostNumbersRow, standIns := [], harness := (true, "0cdef6c97c46c832a74cb43e9d658fd35811a3d81dc2e35f048344eddba1f885"), looks := false }, kinds := [], alts := [], laidByText := true, laidKinds := [.data, .data, .data], laidTests := true, laidLooks := .later }
def HostNumbersCardSaid : Prop := Claim7.holds Tryd.pinned (.plain (OpenSpec.ofChange hostNumbersSpec)) hostNumbersCard

/-- THE SECOND FORM's CARD OF 'glacislaw02.HostNames'. -/
def hostNamesUptoCard : Claim7 := { stood := { row := hostNamesUptoRow, standIns := [], harness := (true, "0cdef6c97c46c832a74cb43e9d658fd35811a3d81dc2e35f048344eddba1f885"), looks := false }, kinds := [], alts := [], laidByText := true, laidKinds := [.data, .data, .data], laidTests := true, laidLooks := .later }
def HostNamesUptoCardSaid : Prop := Claim7.holds Tryd.pinned (.plain (OpenSpec.upto hostNamesSpec)) hostNamesUptoCard

/-- THE SECOND FORM's CARD OF 'glacislaw02.HostReads'. -/
def hostReadsUptoCard : Claim7 := { stood := { row := hostReadsUptoRow, standIns := [], harness := (true, "0cdef6c97c46c832a74cb43e9d658fd35811a3d81dc2e35f048344eddba1f885"), looks := false }, kinds := [], alts := [], laidByText := true, laidKinds := [.data, .data, .data], laidTests := true, laidLooks := .later }
def HostReadsUptoCardSaid : Prop := Claim7.holds Tryd.pinned (.plain (OpenSpec.upto hostReadsSpec)) hostReadsUptoCard

/-- THE SECOND FORM's CARD OF 'glacislaw02.HostTells'. -/
def hostTellsUptoCard : Claim7 := { stood := { row := hostTellsUptoRow, standIns := [], harness := (true, "0cdef6c97c46c832a74cb43e9d658fd35811a3d81dc2e35f048344eddba1f885"), looks := false }, kinds := [], alts := [], laidByText := true, laidKinds := [.data, .data, .data], laidTests := true, laidLooks := .later }
def HostTellsUptoCardSaid : Prop := Claim7.holds Tryd.pinned (.plain (OpenSpec.upto hostTellsSpec)) hostTellsUptoCard

/-- THE SECOND FORM's CARD OF 'glacislaw02.HostBack'. -/
def hostBackUptoCard : Claim7 := { stood := { row := hostBackUptoRow, standIns := [], harness := (true, "0cdef6c97c46c832a74cb43e9d658fd35811a3d81dc2e35f048344eddba1f885"), looks := false }, kinds := [], alts := [], laidByText := true, laidKinds := [.data, .data, .data], laidTests := true, laidLooks := .later }
def HostBackUptoCardSaid : Prop := Claim7.holds Tryd.pinned (.plain (OpenSpec.upto hostBackSpec)) hostBackUptoCard

/-- THE SECOND FORM's CARD OF 'glacislaw02.HostEnds'. -/
def hostEndsUptoCard : Claim7 := { stood := { row := hostEndsUptoRow, standIns := [], harness := (true, "0cdef6c97c46c832a74cb43e9d658fd35811a3d81dc2e35f048344eddba1f885"), looks := false }, kinds := [], alts := [], laidByText := true, laidKinds := [.data, .data, .data], laidTests := true, laidLooks := .later }
def HostEndsUptoCardSaid : Prop := Claim7.holds Tryd.pinned (.plain (OpenSpec.upto hostEndsSpec)) hostEndsUptoCard

/-- THE SECOND FORM's CARD OF 'glacislaw02.HostMore'. -/
def hostMoreUptoCard : Claim7 := { stood := { row := hostMoreUptoRow, standIns := [], harness := (true, "0cdef6c97c46c832a74cb43e9d658fd35811a3d81dc2e35f048344eddba1f885"), looks := false }, kinds := [], alts := [], laidByText := true, laidKinds := [.data, .data, .data], laidTests := true, laidLooks := .later }
def HostMoreUptoCardSaid : Prop := Claim7.holds Tryd.pinned (.plain (OpenSpec.upto hostMoreSpec)) hostMoreUptoCard

/-- THE SECOND FORM's CARD OF 'glacislaw02.HostOrder'. -/
def hostOrderUptoCard : Claim7 := { stood := { row := hostOrderUptoRow, standIns := [], harness := (true, "0cdef6c97c46c832a74cb43e9d658fd35811a3d81dc2e35f048344eddba1f885"), looks := false }, kinds := [], alts := [], laidByText := true, laidKinds := [.data, .data, .data], laidTests := true, laidLooks := .later }
def HostOrderUptoCardSaid : Prop := Claim7.holds Tryd.pinned (.plain (OpenSpec.upto hostOrderSpec)) hostOrderUptoCard

/-- THE SECOND FORM's CARD OF 'glacislaw02.HostNumbers'. -/
def hostNumbersUptoCard : Claim7 := { stood := { row := hostNumbersUptoRow, standIns := [], harness := (true, "0cdef6c97c46c832a74cb43e9d658fd35811a3d81dc2e35f048344eddba1f885"), looks := false }, kinds := [], alts := [], laidByText := true, laidKinds := [.data, .data, .data], laidTests := true, laidLooks := .later }
def HostNumbersUptoCardSaid : Prop := Claim7.holds Tryd.pinned (.plain (OpenSpec.upto hostNumbersSpec)) hostNumbersUptoCard
end Rows
end Go.Proofs.YtbhlmdaogdhjdaaDoor
