/-
  DERIVED. GIVEN WITH THE SEED: THE CARDS: each row of YtoakpnoajmngmaaGreatDoorRows.lean that lists a variable, with what it lists TIED to the program's text (the seventh form; the later family's looks); each row that meets fmt, with fmt's text TOLD by the authors' own Lean function (tested against real Go, not proved from fmt's source: count such statements apart). THE CARD IS WHAT COUNTS. Prove the row's statement (the work); the ties are given (YtoakpnoajmngmaaGreatDoorTie.lean); close each card by the builder's one call (the guide's Derived/Test/ToyasCard.lean, 'card_holds'). Laid BY PROGRAM, IN A SANDBOX (cutbox-door.mjs). By AI agents, Wed Nov 11 2026. No macro, syntax, notation, axiom, sorry.
-/
import Derived.Test.YtoakpnoajmngmaaGreatDoorRows
import GoSem.ClaimSeven
namespace Go.Proofs.YtoakpnoajmngmaaGreatDoor
namespace Rows

/-- THE TIED CARD OF 'fulmarlaw.FccSays'. -/
def fccSaysCard : Claim7 := { stood := { row := fccSaysRow, standIns := [], harness := (true, "3a7f71c1d4582ed39384df58b3ae32747a1b7f84b75a0ddbc34812aa84dd910a"), looks := true }, kinds := [], alts := [], laidByText := true, laidKinds := [.handle], laidTests := true, laidLooks := .later }
def FccSaysCardSaid : Prop := Claim7.holds Tryz.pinned (.plain (OpenSpec.ofChange fccSaysSpec)) fccSaysCard

/-- THE TIED CARD OF 'fulmarlaw.FccMade'. -/
def fccMadeCard : Claim7 := { stood := { row := fccMadeRow, standIns := [], harness := (true, "3a7f71c1d4582ed39384df58b3ae32747a1b7f84b75a0ddbc34812aa84dd910a"), looks := true }, kinds := [], alts := [], laidByText := true, laidKinds := [.handle], laidTests := true, laidLooks := .later }
def FccMadeCardSaid : Prop := Claim7.holds Tryz.pinned (.plain (OpenSpec.ofChange fccMadeSpec)) fccMadeCard

/-- THE SECOND FORM's CARD OF 'fulmarlaw.FccSays'. -/
def fccSaysUptoCard : Claim7 := { stood := { row := fccSaysUptoRow, standIns := [], harness := (true, "3a7f71c1d4582ed39384df58b3ae32747a1b7f84b75a0ddbc34812aa84dd910a"), looks := true }, kinds := [], alts := [], laidByText := true, laidKinds := [.handle], laidTests := true, laidLooks := .later }
def FccSaysUptoCardSaid : Prop := Claim7.holds Tryz.pinned (.plain (OpenSpec.upto fccSaysSpec)) fccSaysUptoCard

/-- THE SECOND FORM's CARD OF 'fulmarlaw.FccMade'. -/
def fccMadeUptoCard : Claim7 := { stood := { row := fccMadeUptoRow, standIns := [], harness := (true, "3a7f71c1d4582ed39384df58b3ae32747a1b7f84b75a0ddbc34812aa84dd910a"), looks := true }, kinds := [], alts := [], laidByText := true, laidKinds := [.handle], laidTests := true, laidLooks := .later }
def FccMadeUptoCardSaid : Prop := Claim7.holds Tryz.pinned (.plain (OpenSpec.upto fccMadeSpec)) fccMadeUptoCard
end Rows
end Go.Proofs.YtoakpnoajmngmaaGreatDoor
