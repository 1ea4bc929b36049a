/-
  R.worth of a list of any length: worked out. Written by a program of ours (wip/dev/sx).
-/
import Derived.Test.YtdfpenjhpemokaaSxStd
import Derived.Test.YtdfpenjhpemokaaProg
set_option linter.unusedVariables false
set_option linter.unusedSimpArgs false
namespace Go.Proofs.Ytdfpenjhpemokaa.Sx
def rWKeeps : List (Nat × List (Nat × List Nat)) := [(47, [(0, [0, 1, 2]), (1, [6])]),
  (147, [(0, [0]), (1, [0, 3]), (2, [0, 3, 7]), (3, [0, 3]), (4, [0, 3, 15]), (5, [2]), (6, [2])])]
def rWArgs : List SV := [.osl 0 [.int .i64 (-9223372036854775808) 9223372036854775807] ⟨(.v 4), 0, 9223372036854775807⟩]
def rWS1 : St := ⟨[(3, ⟨[], .int .i64 ⟨(.v 13), 0, 9223372036854775807⟩⟩), (0, ⟨[], .osl 0 [.int .i64 (-9223372036854775808) 9223372036854775807] ⟨(.v 4), 0, 9223372036854775807⟩⟩)], [], 0, 16⟩
def rWL0 : List LS := [⟨[], .normal, rWS1, ⟨[(13, (.c 0))], []⟩⟩]
def rWV0 : List VC := []
theorem rW_ran0 : ran (runP Try.prog 23 (cfgK noSum rWKeeps 50 12) 147 (partOf Try.prog 147 0 2) (start Try.prog 147 rWArgs [] 0)) rWL0 rWV0 = true := by kernel_rfl
def rWW0 : List VC := []
theorem rW_defs0 : defs rWV0 [] [] = rWW0 := by kernel_rfl
theorem rW_no0 : rWW0.all VC.isNo = true := by kernel_rfl
theorem rW_w0 (ρ : Env) : andV ρ rWW0 = (True) := by kernel_rfl
theorem rW_says0 (ρ : Env) : saysL ρ rWV0 = (True) := by kernel_rfl
theorem rW_0_pc0 (ρ : Env) : andB ρ [] = (True) := by kernel_rfl
def rWL1 : List LS := [⟨[(.un .not (.bin .and (.bin .le (.c (-1000000)) (.ap 1000 (.cons (.v 13) .nil))) (.bin .le (.ap 1000 (.cons (.v 13) .nil)) (.c 1000000)))), (.bin .lt (.v 13) (.v 4))], .ret, ⟨[(2, ⟨[], .int .i64 ⟨(.c 1), 1, 1⟩⟩)], [], 0, 16⟩, ⟨[], []⟩⟩,
  ⟨[(.bin .and (.bin .le (.c (-1000000)) (.ap 1000 (.cons (.v 13) .nil))) (.bin .le (.ap 1000 (.cons (.v 13) .nil)) (.c 1000000))), (.bin .lt (.v 13) (.v 4))], .normal, rWS1, ⟨[(13, (.un (.wrap .i64) (.bin .add (.v 13) (.c 1))))], []⟩⟩,
  ⟨[(.bin .le (.v 4) (.v 13))], (.exit 0), rWS1, ⟨[], []⟩⟩]
def rWV1 : List VC := []
theorem rW_ran1 : ran (runP Try.prog 23 (cfgK noSum rWKeeps 50 12) 147 (loopOf Try.prog 147 2) rWS1) rWL1 rWV1 = true := by kernel_rfl
def rWW1 : List VC := []
theorem rW_defs1 : defs rWV1 [] [] = rWW1 := by kernel_rfl
theorem rW_no1 : rWW1.all VC.isNo = true := by kernel_rfl
theorem rW_w1 (ρ : Env) : andV ρ rWW1 = (True) := by kernel_rfl
theorem rW_says1 (ρ : Env) : saysL ρ rWV1 = (True) := by kernel_rfl
theorem rW_1_pc0 (ρ : Env) : andB ρ [(.un .not (.bin .and (.bin .le (.c (-1000000)) (.ap 1000 (.cons (.v 13) .nil))) (.bin .le (.ap 1000 (.cons (.v 13) .nil)) (.c 1000000)))), (.bin .lt (.v 13) (.v 4))] = ((!((decide ((-1000000 : Int) ≤ (ρ.fn 1000 ((ρ.iv 13) :: [])))) && (decide ((ρ.fn 1000 ((ρ.iv 13) :: [])) ≤ (1000000 : Int))))) = true ∧ (decide ((ρ.iv 13) < (ρ.iv 4))) = true ∧ True) := by kernel_rfl
theorem rW_1_pc1 (ρ : Env) : andB ρ [(.bin .and (.bin .le (.c (-1000000)) (.ap 1000 (.cons (.v 13) .nil))) (.bin .le (.ap 1000 (.cons (.v 13) .nil)) (.c 1000000))), (.bin .lt (.v 13) (.v 4))] = (((decide ((-1000000 : Int) ≤ (ρ.fn 1000 ((ρ.iv 13) :: [])))) && (decide ((ρ.fn 1000 ((ρ.iv 13) :: [])) ≤ (1000000 : Int)))) = true ∧ (decide ((ρ.iv 13) < (ρ.iv 4))) = true ∧ True) := by kernel_rfl
theorem rW_1_pc2 (ρ : Env) : andB ρ [(.bin .le (.v 4) (.v 13))] = ((decide ((ρ.iv 4) ≤ (ρ.iv 13))) = true ∧ True) := by kernel_rfl
def rWL2 : List LS := [⟨[], .ret, ⟨[(2, ⟨[], .int .i64 ⟨(.c 0), 0, 0⟩⟩)], [], 0, 16⟩, ⟨[], []⟩⟩]
def rWV2 : List VC := []
theorem rW_ran2 : ran (runP Try.prog 23 (cfgK noSum rWKeeps 50 12) 147 (partOf Try.prog 147 3 5) rWS1) rWL2 rWV2 = true := by kernel_rfl
def rWW2 : List VC := []
theorem rW_defs2 : defs rWV2 [] [] = rWW2 := by kernel_rfl
theorem rW_no2 : rWW2.all VC.isNo = true := by kernel_rfl
theorem rW_w2 (ρ : Env) : andV ρ rWW2 = (True) := by kernel_rfl
theorem rW_says2 (ρ : Env) : saysL ρ rWV2 = (True) := by kernel_rfl
theorem rW_2_pc0 (ρ : Env) : andB ρ [] = (True) := by kernel_rfl
end Go.Proofs.Ytdfpenjhpemokaa.Sx
