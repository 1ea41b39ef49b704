/-
  DERIVED. GIVEN WITH THE SEED: THE CARDS: each row of YtiehjmjobcklmaaDoorRows.lean that lists a variable, with what it lists TIED to the program's text (the seventh form; the later family's looks); each row that meets fmt, with fmt's text TOLD by the authors' own Lean function (tested against real Go, not proved from fmt's source: count such statements apart). THE CARD IS WHAT COUNTS. Prove the row's statement (the work); the ties are given (YtiehjmjobcklmaaDoorTie.lean); close each card by the builder's one call (the guide's Derived/Test/ToyasCard.lean, 'card_holds'). Laid BY PROGRAM, IN A SANDBOX (cutbox-door.mjs). By AI agents, Wed Nov 11 2026. No macro, syntax, notation, axiom, sorry.
-/
import Derived.Test.YtiehjmjobcklmaaDoorRows
import GoSem.ClaimSeven
namespace Go.Proofs.YtiehjmjobcklmaaDoor
namespace Rows

/-- THE TIED CARD OF 'ferretlaw06.TapeReads'. -/
def tapeReadsCard : Claim7 := { stood := { row := tapeReadsRow, standIns := [], harness := (true, "3c870867448e7049151410bbece18765dc267a3318a392e106f6fe3f52edff6e"), looks := false }, kinds := [], alts := [], laidByText := true, laidKinds := [.data, .pinned], laidTests := true, laidLooks := .later }
def TapeReadsCardSaid : Prop := Claim7.holds Tryd.pinned (.plain (OpenSpec.ofChange tapeReadsSpec)) tapeReadsCard

/-- THE TIED CARD OF 'ferretlaw06.TapeEnds'. -/
def tapeEndsCard : Claim7 := { stood := { row := tapeEndsRow, standIns := [], harness := (true, "3c870867448e7049151410bbece18765dc267a3318a392e106f6fe3f52edff6e"), looks := false }, kinds := [], alts := [], laidByText := true, laidKinds := [.data, .data, .data, .data, .pinned], laidTests := true, laidLooks := .later }
def TapeEndsCardSaid : Prop := Claim7.holds Tryd.pinned (.plain (OpenSpec.ofChange tapeEndsSpec)) tapeEndsCard

/-- THE TIED CARD OF 'ferretlaw06.TapeNames'. -/
def tapeNamesCard : Claim7 := { stood := { row := tapeNamesRow, standIns := [], harness := (true, "3c870867448e7049151410bbece18765dc267a3318a392e106f6fe3f52edff6e"), looks := false }, kinds := [], alts := [], laidByText := true, laidKinds := [.data, .data, .data, .data, .pinned], laidTests := true, laidLooks := .later }
def TapeNamesCardSaid : Prop := Claim7.holds Tryd.pinned (.plain (OpenSpec.ofChange tapeNamesSpec)) tapeNamesCard

/-- THE SECOND FORM's CARD OF 'ferretlaw06.TapeReads'. -/
def tapeReadsUptoCard : Claim7 := { stood := { row := tapeReadsUptoRow, standIns := [], harness := (true, "3c870867448e7049151410bbece18765dc267a3318a392e106f6fe3f52edff6e"), looks := false }, kinds := [], alts := [], laidByText := true, laidKinds := [.data, .pinned], laidTests := true, laidLooks := .later }
def TapeReadsUptoCardSaid : Prop := Claim7.holds Tryd.pinned (.plain (OpenSpec.upto tapeReadsSpec)) tapeReadsUptoCard

/-- THE SECOND FORM's CARD OF 'ferretlaw06.TapeEnds'. -/
def tapeEndsUptoCard : Claim7 := { stood := { row := tapeEndsUptoRow, standIns := [], harness := (true, "3c870867448e7049151410bbece18765dc267a3318a392e106f6fe3f52edff6e"), looks := false }, kinds := [], alts := [], laidByText := true, laidKinds := [.data, .data, .data, .data, .pinned], laidTests := true, laidLooks := .later }
def TapeEndsUptoCardSaid : Prop := Claim7.holds Tryd.pinned (.plain (OpenSpec.upto tapeEndsSpec)) tapeEndsUptoCard

/-- THE SECOND FORM's CARD OF 'ferretlaw06.TapeNames'. -/
def tapeNamesUptoCard : Claim7 := { stood := { row := tapeNamesUptoRow, standIns := [], harness := (true, "3c870867448e7049151410bbece18765dc267a3318a392e106f6fe3f52edff6e"), looks := false }, kinds := [], alts := [], laidByText := true, laidKinds := [.data, .data, .data, .data, .pinned], laidTests := true, laidLooks := .later }
def TapeNamesUptoCardSaid : Prop := Claim7.holds Tryd.pinned (.plain (OpenSpec.upto tapeNamesSpec)) tapeNamesUptoCard
end Rows
end Go.Proofs.YtiehjmjobcklmaaDoor
