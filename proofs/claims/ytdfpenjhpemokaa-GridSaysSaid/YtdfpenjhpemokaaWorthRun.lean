/-
  Whether the numbers of a list may be: pieces, worked out. Written by a program of ours (wip/dev/sx).
-/
import Derived.Test.YtdfpenjhpemokaaSxStd
import Derived.Test.YtdfpenjhpemokaaProg
set_option linter.unusedVariables false
set_option linter.unusedSimpArgs false
namespace Go.Proofs.Ytdfpenjhpemokaa.Sx
def twKeeps : List (Nat × List (Nat × List Nat)) := [(151, [(0, [0]), (1, [5, 6, 7]), (2, [5, 6, 7, 8]), (3, [4, 5, 6, 7]), (4, [5, 6, 7, 16]), (5, [2]), (6, [5, 6, 7]), (7, [2])])]
def twArgs : List SV := [.osl 0 [.int .i64 (-9223372036854775808) 9223372036854775807] ⟨(.v 4), 0, 1000⟩]
def twS1 : St := ⟨[(7, ⟨[], .int .i64 ⟨(.v 13), 0, 1000⟩⟩), (6, ⟨[], .int .i64 ⟨(.v 4), 0, 1000⟩⟩), (5, ⟨[], .osl 0 [.int .i64 (-9223372036854775808) 9223372036854775807] ⟨(.v 4), 0, 1000⟩⟩)], [], 0, 19⟩
def twL0 : List LS := [⟨[], .normal, twS1, ⟨[(13, (.c 0))], []⟩⟩]
def twV0 : List VC := []
theorem tw_ran0 : ran (runP Try.prog 23 (cfgK noSum twKeeps 50 12) 151 (partOf Try.prog 151 0 2) (start Try.prog 151 twArgs [] 0)) twL0 twV0 = true := by kernel_rfl
def twW0 : List VC := []
theorem tw_defs0 : defs twV0 [] [] = twW0 := by kernel_rfl
theorem tw_no0 : twW0.all VC.isNo = true := by kernel_rfl
def twL1 : List LS := [⟨[(.bin .or (.bin .lt (.ap 1000 (.cons (.v 13) .nil)) (.c (-1000000))) (.bin .lt (.c 1000000) (.ap 1000 (.cons (.v 13) .nil)))), (.bin .lt (.v 13) (.v 4))], .ret, ⟨[(2, ⟨[], .ifc 23 (.int .i64 ⟨(.c 1), 1, 1⟩)⟩)], [], 0, 19⟩, ⟨[], []⟩⟩,
  ⟨[(.un .not (.bin .or (.bin .lt (.ap 1000 (.cons (.v 13) .nil)) (.c (-1000000))) (.bin .lt (.c 1000000) (.ap 1000 (.cons (.v 13) .nil))))), (.bin .lt (.v 13) (.v 4))], .normal, twS1, ⟨[(13, (.bin .add (.v 13) (.c 1)))], []⟩⟩,
  ⟨[(.bin .le (.v 4) (.v 13))], (.exit 0), twS1, ⟨[], []⟩⟩]
def twV1 : List VC := []
theorem tw_ran1 : ran (runP Try.prog 23 (cfgK noSum twKeeps 50 12) 151 (loopOf Try.prog 151 2) twS1) twL1 twV1 = true := by kernel_rfl
def twW1 : List VC := []
theorem tw_defs1 : defs twV1 [] [] = twW1 := by kernel_rfl
theorem tw_no1 : twW1.all VC.isNo = true := by kernel_rfl
theorem tw_1_pc0 (ρ : Env) : andB ρ [(.bin .or (.bin .lt (.ap 1000 (.cons (.v 13) .nil)) (.c (-1000000))) (.bin .lt (.c 1000000) (.ap 1000 (.cons (.v 13) .nil)))), (.bin .lt (.v 13) (.v 4))] = (((decide ((ρ.fn 1000 ((ρ.iv 13) :: [])) < (-1000000 : Int))) || (decide ((1000000 : Int) < (ρ.fn 1000 ((ρ.iv 13) :: []))))) = true ∧ (decide ((ρ.iv 13) < (ρ.iv 4))) = true ∧ True) := by kernel_rfl
theorem tw_1_pc1 (ρ : Env) : andB ρ [(.un .not (.bin .or (.bin .lt (.ap 1000 (.cons (.v 13) .nil)) (.c (-1000000))) (.bin .lt (.c 1000000) (.ap 1000 (.cons (.v 13) .nil))))), (.bin .lt (.v 13) (.v 4))] = ((!((decide ((ρ.fn 1000 ((ρ.iv 13) :: [])) < (-1000000 : Int))) || (decide ((1000000 : Int) < (ρ.fn 1000 ((ρ.iv 13) :: [])))))) = true ∧ (decide ((ρ.iv 13) < (ρ.iv 4))) = true ∧ True) := by kernel_rfl
theorem tw_1_pc2 (ρ : Env) : andB ρ [(.bin .le (.v 4) (.v 13))] = ((decide ((ρ.iv 4) ≤ (ρ.iv 13))) = true ∧ True) := by kernel_rfl
def twL2 : List LS := [⟨[], .ret, ⟨[(2, ⟨[], .nili⟩)], [], 0, 19⟩, ⟨[], []⟩⟩]
def twV2 : List VC := []
theorem tw_ran2 : ran (runP Try.prog 23 (cfgK noSum twKeeps 50 12) 151 (partOf Try.prog 151 3 5) twS1) twL2 twV2 = true := by kernel_rfl
def twW2 : List VC := []
theorem tw_defs2 : defs twV2 [] [] = twW2 := by kernel_rfl
theorem tw_no2 : twW2.all VC.isNo = true := by kernel_rfl
def rwKeeps : List (Nat × List (Nat × List Nat)) := [(47, [(0, [0, 1, 2]), (1, [6])]),
  (147, [(0, [0]), (1, [0, 3]), (2, [0, 3, 7]), (3, [0, 3]), (4, [0, 3, 15]), (5, [2]), (6, [2])])]
def rwArgs : List SV := [.osl 0 [.int .i64 (-9223372036854775808) 9223372036854775807] ⟨(.v 4), 0, 1000⟩]
def rwS1 : St := ⟨[(3, ⟨[], .int .i64 ⟨(.v 13), 0, 1000⟩⟩), (0, ⟨[], .osl 0 [.int .i64 (-9223372036854775808) 9223372036854775807] ⟨(.v 4), 0, 1000⟩⟩)], [], 0, 16⟩
def rwL0 : List LS := [⟨[], .normal, rwS1, ⟨[(13, (.c 0))], []⟩⟩]
def rwV0 : List VC := []
theorem rw_ran0 : ran (runP Try.prog 23 (cfgK noSum rwKeeps 50 12) 147 (partOf Try.prog 147 0 2) (start Try.prog 147 rwArgs [] 0)) rwL0 rwV0 = true := by kernel_rfl
def rwW0 : List VC := []
theorem rw_defs0 : defs rwV0 [] [] = rwW0 := by kernel_rfl
theorem rw_no0 : rwW0.all VC.isNo = true := by kernel_rfl
def rwL1 : List LS := [⟨[(.un .not (.bin .and (.bin .le (.c (-1000000)) (.ap 1000 (.cons (.v 13) .nil))) (.bin .le (.ap 1000 (.cons (.v 13) .nil)) (.c 1000000)))), (.bin .lt (.v 13) (.v 4))], .ret, ⟨[(2, ⟨[], .int .i64 ⟨(.c 1), 1, 1⟩⟩)], [], 0, 16⟩, ⟨[], []⟩⟩,
  ⟨[(.bin .and (.bin .le (.c (-1000000)) (.ap 1000 (.cons (.v 13) .nil))) (.bin .le (.ap 1000 (.cons (.v 13) .nil)) (.c 1000000))), (.bin .lt (.v 13) (.v 4))], .normal, rwS1, ⟨[(13, (.bin .add (.v 13) (.c 1)))], []⟩⟩,
  ⟨[(.bin .le (.v 4) (.v 13))], (.exit 0), rwS1, ⟨[], []⟩⟩]
def rwV1 : List VC := []
theorem rw_ran1 : ran (runP Try.prog 23 (cfgK noSum rwKeeps 50 12) 147 (loopOf Try.prog 147 2) rwS1) rwL1 rwV1 = true := by kernel_rfl
def rwW1 : List VC := []
theorem rw_defs1 : defs rwV1 [] [] = rwW1 := by kernel_rfl
theorem rw_no1 : rwW1.all VC.isNo = true := by kernel_rfl
theorem rw_1_pc0 (ρ : Env) : andB ρ [(.un .not (.bin .and (.bin .le (.c (-1000000)) (.ap 1000 (.cons (.v 13) .nil))) (.bin .le (.ap 1000 (.cons (.v 13) .nil)) (.c 1000000)))), (.bin .lt (.v 13) (.v 4))] = ((!((decide ((-1000000 : Int) ≤ (ρ.fn 1000 ((ρ.iv 13) :: [])))) && (decide ((ρ.fn 1000 ((ρ.iv 13) :: [])) ≤ (1000000 : Int))))) = true ∧ (decide ((ρ.iv 13) < (ρ.iv 4))) = true ∧ True) := by kernel_rfl
theorem rw_1_pc1 (ρ : Env) : andB ρ [(.bin .and (.bin .le (.c (-1000000)) (.ap 1000 (.cons (.v 13) .nil))) (.bin .le (.ap 1000 (.cons (.v 13) .nil)) (.c 1000000))), (.bin .lt (.v 13) (.v 4))] = (((decide ((-1000000 : Int) ≤ (ρ.fn 1000 ((ρ.iv 13) :: [])))) && (decide ((ρ.fn 1000 ((ρ.iv 13) :: [])) ≤ (1000000 : Int)))) = true ∧ (decide ((ρ.iv 13) < (ρ.iv 4))) = true ∧ True) := by kernel_rfl
theorem rw_1_pc2 (ρ : Env) : andB ρ [(.bin .le (.v 4) (.v 13))] = ((decide ((ρ.iv 4) ≤ (ρ.iv 13))) = true ∧ True) := by kernel_rfl
def rwL2 : List LS := [⟨[], .ret, ⟨[(2, ⟨[], .int .i64 ⟨(.c 0), 0, 0⟩⟩)], [], 0, 16⟩, ⟨[], []⟩⟩]
def rwV2 : List VC := []
theorem rw_ran2 : ran (runP Try.prog 23 (cfgK noSum rwKeeps 50 12) 147 (partOf Try.prog 147 3 5) rwS1) rwL2 rwV2 = true := by kernel_rfl
def rwW2 : List VC := []
theorem rw_defs2 : defs rwV2 [] [] = rwW2 := by kernel_rfl
theorem rw_no2 : rwW2.all VC.isNo = true := by kernel_rfl
end Go.Proofs.Ytdfpenjhpemokaa.Sx
