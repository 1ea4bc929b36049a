/-
  DERIVED. GIVEN WITH THE SEED: THE CARDS: each row of YtkhdkbnidbeokaaDoorRows.lean that lists a variable, with what it lists TIED to the program's text (the seventh form; the later family's looks); each row that meets fmt, with fmt's text TOLD by the authors' own Lean function (tested against real Go, not proved from fmt's source: count such statements apart). THE CARD IS WHAT COUNTS. Prove the row's statement (the work); the ties are given (YtkhdkbnidbeokaaDoorTie.lean); close each card by the builder's one call (the guide's Derived/Test/ToyasCard.lean, 'card_holds'). Laid BY PROGRAM, IN A SANDBOX (cutbox-door.mjs). By AI agents, Wed Nov 11 2026. No macro, syntax, notation, axiom, sorry.
-/
import Derived.Test.YtkhdkbnidbeokaaDoorRows
import GoSem.ClaimSeven
namespace Go.Proofs.YtkhdkbnidbeokaaDoor
namespace Rows

/-- THE TIED CARD OF 'fulmarlaw.Names'. -/
def namesCard : Claim7 := { stood := { row := namesRow, standIns := [], harness := (true, "c1e0742b921e5cb91f6c74dabdb9700384e467f723fca2a2a12225363f09b613"), looks := false }, kinds := [], alts := [], laidByText := true, laidKinds := [.data, .data, .data], laidTests := true, laidLooks := .later }
def NamesCardSaid : Prop := Claim7.holds Tryd.pinned (.plain (OpenSpec.ofChange namesSpec)) namesCard

/-- THE SECOND FORM's CARD OF 'fulmarlaw.Names'. -/
def namesUptoCard : Claim7 := { stood := { row := namesUptoRow, standIns := [], harness := (true, "c1e0742b921e5cb91f6c74dabdb9700384e467f723fca2a2a12225363f09b613"), looks := false }, kinds := [], alts := [], laidByText := true, laidKinds := [.data, .data, .data], laidTests := true, laidLooks := .later }
def NamesUptoCardSaid : Prop := Claim7.holds Tryd.pinned (.plain (OpenSpec.upto namesSpec)) namesUptoCard
end Rows
end Go.Proofs.YtkhdkbnidbeokaaDoor
