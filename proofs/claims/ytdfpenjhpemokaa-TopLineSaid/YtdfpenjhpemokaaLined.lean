/-
  The closed fact lined. Written by a program of ours (wip/dev/sx).
-/
import Derived.Test.YtdfpenjhpemokaaSxLaw
import Derived.Test.YtdfpenjhpemokaaProg
set_option linter.unusedVariables false
set_option linter.unusedSimpArgs false
namespace Go.Proofs.Ytdfpenjhpemokaa.Sx
open Go.RowKit
def lNKeeps : List (Nat × List (Nat × List Nat)) := [(80, [(0, [1, 2]), (1, [1, 2, 6]), (2, [1, 2, 6, 10]), (3, [4, 5]), (4, [4, 5])]),
  (81, [(0, [1]), (1, [1, 10]), (2, [2]), (3, [1, 3]), (4, [1, 3, 16]), (5, [2]), (6, [2])]),
  (123, [(0, []), (1, [1, 2]), (2, [0])]),
  (133, [(0, [0, 1, 2]), (1, [0, 1, 2, 14]), (2, [6]), (3, [0, 2, 18]), (4, [6]), (5, [6])]),
  (149, [(0, [1, 2]), (1, [1, 2]), (2, [1, 2, 5]), (3, [1, 2, 5, 6]), (4, [4])]),
  (150, [(0, [0]), (1, [0, 7]), (2, [2]), (3, [0, 11]), (4, [2]), (5, [0, 3]), (6, [0, 3, 16]), (7, [2]), (8, [0, 4]), (9, [0, 4, 21]), (10, [0, 4]), (11, [0, 4, 33]), (12, [2]), (13, [2])]),
  (151, [(0, [0]), (1, [5, 6, 7]), (2, [5, 6, 7, 8]), (3, [4, 5, 6, 7]), (4, [5, 6, 7, 16]), (5, [2]), (6, [5, 6, 7]), (7, [2])]),
  (153, [(0, [0, 1]), (1, [0, 1, 5]), (2, [0, 1, 5, 19]), (3, [0, 1, 5]), (4, [4])]),
  (154, [(0, [0, 1]), (1, [4])]),
  (172, [(0, [0, 1]), (1, [0, 1, 5]), (2, [5, 12]), (3, [5]), (4, [4])])]
def lNV : List VC := []
def lNE : E := (.bc true)
theorem lN_ran : chk (callN Try.prog 23 (cfgK noSum lNKeeps 50 12) (runDraw Try.prog 23) 20 [] 123 [] [] 0) lNE lNV = true := by kernel_rfl
def lNW : List VC := []
theorem lN_defs : defs lNV [] [] = lNW := by kernel_rfl
theorem lN_no : lNW.all VC.isNo = true := by kernel_rfl
theorem lN_w (ρ : Env) : andV ρ lNW = (True) := by kernel_rfl
theorem lN_says (ρ : Env) : saysL ρ lNV = (True) := by kernel_rfl
theorem lN_e (ρ : Env) : lNE.b ρ = true := by kernel_rfl
theorem topLined (w : World) : Calls Try.prog 123 #[] w fun e w' => e = .returned (.bool true) ∧ Below w.heap.size w w' := by
  obtain ⟨ρ0, h⟩ := Jm.start noF noB (fun _ => GD.none) (fun _ => 0) (fun _ => false)
  exact law_true lN_ran lN_defs lN_no (Jm noF noB (fun _ => GD.none) (fun _ => 0) (fun _ => false)) (fun ρ h => ⟨h.std.et, noSum_ok _ _⟩) (fun ρ ρ' h hs => h.same hs) (fun ρ h _ => Eq.mpr (lN_w ρ) trivial) (fun ρ h _ => lN_e ρ) (b := ⟨fun _ => 0, fun _ => 0, fun _ => 0⟩) (fun ρ h => ⟨trivial, h.mem (fun _ => GD.none_ok w), rfl⟩) h
end Go.Proofs.Ytdfpenjhpemokaa.Sx
