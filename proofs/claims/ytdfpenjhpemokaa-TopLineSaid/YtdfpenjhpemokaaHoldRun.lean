/-
  hold.Check and R.HoldRuleMay: worked out. Written by a program of ours (wip/dev/sx).
-/
import Derived.Test.YtdfpenjhpemokaaLineK
import Derived.Test.YtdfpenjhpemokaaProg
set_option linter.unusedVariables false
set_option linter.unusedSimpArgs false
namespace Go.Proofs.Ytdfpenjhpemokaa.Sx
def hcKeeps : List (Nat × List (Nat × List Nat)) := [(46, [(0, [0, 3]), (1, [4])]),
  (81, [(0, [1]), (1, [1, 10]), (2, [2]), (3, [1, 3]), (4, [1, 3, 16]), (5, [2]), (6, [2])]),
  (112, [(0, [1]), (1, [1, 3]), (2, [1, 51]), (3, [2]), (4, [1, 59]), (5, [2]), (6, [1, 4]), (7, [1, 4, 65]), (8, [2]), (9, [69, 70, 71]), (10, [69, 70, 71, 72]), (11, [6, 69, 70, 71]), (12, [69, 70, 71, 80]), (13, [2]), (14, [69, 70, 71]), (15, [2])]),
  (150, [(0, [0]), (1, [0, 7]), (2, [2]), (3, [0, 11]), (4, [2]), (5, [0, 3]), (6, [0, 3, 16]), (7, [2]), (8, [0, 4]), (9, [0, 4, 21]), (10, [0, 4]), (11, [0, 4, 33]), (12, [2]), (13, [2])]),
  (151, [(0, [0]), (1, [5, 6, 7]), (2, [5, 6, 7, 8]), (3, [4, 5, 6, 7]), (4, [5, 6, 7, 16]), (5, [2]), (6, [5, 6, 7]), (7, [2])])]
def hcArgs : List SV := [.agg [.int .i64 ⟨(.v 20), (-9223372036854775808), 9223372036854775807⟩, .int .i64 ⟨(.v 21), (-9223372036854775808), 9223372036854775807⟩, .int .i64 ⟨(.v 22), (-9223372036854775808), 9223372036854775807⟩, .int .i64 ⟨(.v 23), (-9223372036854775808), 9223372036854775807⟩, .int .i64 ⟨(.v 24), (-9223372036854775808), 9223372036854775807⟩, .osl 0 [.int .i64 (-9223372036854775808) 9223372036854775807] ⟨(.v 4), 0, 1000⟩, .osl 1 [.int .i64 (-9223372036854775808) 9223372036854775807] ⟨(.v 6), 0, 1000⟩]]
def hcS1 : St := ⟨[(71, ⟨[], .int .i64 ⟨(.v 13), 0, 1000⟩⟩), (70, ⟨[], .int .i64 ⟨(.v 6), 0, 1000⟩⟩), (69, ⟨[], .osl 1 [.int .i64 (-9223372036854775808) 9223372036854775807] ⟨(.v 6), 0, 1000⟩⟩)], [], 4, 83⟩
def hcL0 : List LS := [⟨[(.bin .or (.bin .or (.bin .or (.bin .or (.bv 981781958984974276) (.bin .lt (.v 23) (.c 0))) (.bin .lt (.c 65536) (.v 23))) (.bin .lt (.v 24) (.c 1))) (.bin .lt (.c 4000) (.v 24)))], .ret, ⟨[(2, ⟨[], .ifc 23 (.int .i64 ⟨(.c 1), 1, 1⟩)⟩)], [], 0, 83⟩, ⟨[], []⟩⟩,
  ⟨[(.bin .lt (.v 21) (.v 20)), (.un .not (.bin .or (.bin .or (.bin .or (.bin .or (.bv 981781958984974276) (.bin .lt (.v 23) (.c 0))) (.bin .lt (.c 65536) (.v 23))) (.bin .lt (.v 24) (.c 1))) (.bin .lt (.c 4000) (.v 24))))], .ret, ⟨[(2, ⟨[], .ifc 23 (.int .i64 ⟨(.c 3), 3, 3⟩)⟩)], [], 0, 83⟩, ⟨[], []⟩⟩,
  ⟨[(.un .not (.bin .eq (.ap 62 (.cons (.c 0) (.cons (.c 1) .nil))) (.c 0))), (.bin .le (.v 20) (.v 21)), (.un .not (.bin .or (.bin .or (.bin .or (.bin .or (.bv 981781958984974276) (.bin .lt (.v 23) (.c 0))) (.bin .lt (.c 65536) (.v 23))) (.bin .lt (.v 24) (.c 1))) (.bin .lt (.c 4000) (.v 24))))], .ret, ⟨[(2, ⟨[], .ifc 23 (.int .i64 ⟨(.v 900), 1, 5⟩)⟩)], [], 0, 83⟩, ⟨[(900, (.ap 62 (.cons (.c 0) (.cons (.c 1) .nil))))], []⟩⟩,
  ⟨[(.bin .eq (.ap 62 (.cons (.c 0) (.cons (.c 1) .nil))) (.c 0)), (.bin .le (.v 20) (.v 21)), (.un .not (.bin .or (.bin .or (.bin .or (.bin .or (.bv 981781958984974276) (.bin .lt (.v 23) (.c 0))) (.bin .lt (.c 65536) (.v 23))) (.bin .lt (.v 24) (.c 1))) (.bin .lt (.c 4000) (.v 24))))], .normal, hcS1, ⟨[(13, (.c 0))], []⟩⟩]
def hcV0 : List VC := [⟨[], (.ite (.bv 981781958984974276) (.bin .or (.bin .or (.bin .or (.un .not (.bin .and (.bin .le (.c (-100000)) (.v 20)) (.bin .le (.v 20) (.c 100000)))) (.un .not (.bin .and (.bin .le (.c (-100000)) (.v 21)) (.bin .le (.v 21) (.c 100000))))) (.bin .lt (.v 22) (.c 0))) (.bin .lt (.c 1000) (.v 22))) (.un .not (.bin .or (.bin .or (.bin .or (.un .not (.bin .and (.bin .le (.c (-100000)) (.v 20)) (.bin .le (.v 20) (.c 100000)))) (.un .not (.bin .and (.bin .le (.c (-100000)) (.v 21)) (.bin .le (.v 21) (.c 100000))))) (.bin .lt (.v 22) (.c 0))) (.bin .lt (.c 1000) (.v 22)))))⟩]
theorem hc_ran0 : ran (runP Try.prog 23 (cfgK lineSum hcKeeps 50 12) 112 (partOf Try.prog 112 0 10) (start Try.prog 112 hcArgs [] 0)) hcL0 hcV0 = true := by kernel_rfl
def hcW0 : List VC := []
theorem hc_defs0 : defs hcV0 [] [] = hcW0 := by kernel_rfl
theorem hc_no0 : hcW0.all VC.isNo = true := by kernel_rfl
theorem hc_w0 (ρ : Env) : andV ρ hcW0 = (True) := by kernel_rfl
theorem hc_says0 (ρ : Env) : saysL ρ hcV0 = (ρ.bv 981781958984974276 = ((((!((decide ((-100000 : Int) ≤ (ρ.iv 20))) && (decide ((ρ.iv 20) ≤ (100000 : Int))))) || (!((decide ((-100000 : Int) ≤ (ρ.iv 21))) && (decide ((ρ.iv 21) ≤ (100000 : Int)))))) || (decide ((ρ.iv 22) < (0 : Int)))) || (decide ((1000 : Int) < (ρ.iv 22)))) ∧
  True) := by kernel_rfl
theorem hc_0_pc0 (ρ : Env) : andB ρ [(.bin .or (.bin .or (.bin .or (.bin .or (.bv 981781958984974276) (.bin .lt (.v 23) (.c 0))) (.bin .lt (.c 65536) (.v 23))) (.bin .lt (.v 24) (.c 1))) (.bin .lt (.c 4000) (.v 24)))] = ((((((ρ.bv 981781958984974276) || (decide ((ρ.iv 23) < (0 : Int)))) || (decide ((65536 : Int) < (ρ.iv 23)))) || (decide ((ρ.iv 24) < (1 : Int)))) || (decide ((4000 : Int) < (ρ.iv 24)))) = true ∧ True) := by kernel_rfl
theorem hc_0_pc1 (ρ : Env) : andB ρ [(.bin .lt (.v 21) (.v 20)), (.un .not (.bin .or (.bin .or (.bin .or (.bin .or (.bv 981781958984974276) (.bin .lt (.v 23) (.c 0))) (.bin .lt (.c 65536) (.v 23))) (.bin .lt (.v 24) (.c 1))) (.bin .lt (.c 4000) (.v 24))))] = ((decide ((ρ.iv 21) < (ρ.iv 20))) = true ∧ (!(((((ρ.bv 981781958984974276) || (decide ((ρ.iv 23) < (0 : Int)))) || (decide ((65536 : Int) < (ρ.iv 23)))) || (decide ((ρ.iv 24) < (1 : Int)))) || (decide ((4000 : Int) < (ρ.iv 24))))) = true ∧ True) := by kernel_rfl
theorem hc_0_pc2 (ρ : Env) : andB ρ [(.un .not (.bin .eq (.ap 62 (.cons (.c 0) (.cons (.c 1) .nil))) (.c 0))), (.bin .le (.v 20) (.v 21)), (.un .not (.bin .or (.bin .or (.bin .or (.bin .or (.bv 981781958984974276) (.bin .lt (.v 23) (.c 0))) (.bin .lt (.c 65536) (.v 23))) (.bin .lt (.v 24) (.c 1))) (.bin .lt (.c 4000) (.v 24))))] = ((!(decide ((ρ.fn 62 ((0 : Int) :: ((1 : Int) :: []))) = (0 : Int)))) = true ∧ (decide ((ρ.iv 20) ≤ (ρ.iv 21))) = true ∧ (!(((((ρ.bv 981781958984974276) || (decide ((ρ.iv 23) < (0 : Int)))) || (decide ((65536 : Int) < (ρ.iv 23)))) || (decide ((ρ.iv 24) < (1 : Int)))) || (decide ((4000 : Int) < (ρ.iv 24))))) = true ∧ True) := by kernel_rfl
theorem hc_0_pc3 (ρ : Env) : andB ρ [(.bin .eq (.ap 62 (.cons (.c 0) (.cons (.c 1) .nil))) (.c 0)), (.bin .le (.v 20) (.v 21)), (.un .not (.bin .or (.bin .or (.bin .or (.bin .or (.bv 981781958984974276) (.bin .lt (.v 23) (.c 0))) (.bin .lt (.c 65536) (.v 23))) (.bin .lt (.v 24) (.c 1))) (.bin .lt (.c 4000) (.v 24))))] = ((decide ((ρ.fn 62 ((0 : Int) :: ((1 : Int) :: []))) = (0 : Int))) = true ∧ (decide ((ρ.iv 20) ≤ (ρ.iv 21))) = true ∧ (!(((((ρ.bv 981781958984974276) || (decide ((ρ.iv 23) < (0 : Int)))) || (decide ((65536 : Int) < (ρ.iv 23)))) || (decide ((ρ.iv 24) < (1 : Int)))) || (decide ((4000 : Int) < (ρ.iv 24))))) = true ∧ True) := by kernel_rfl
def hcL1 : List LS := [⟨[(.bin .or (.bin .lt (.ap 1100 (.cons (.v 13) .nil)) (.c 0)) (.bin .lt (.c 65536) (.ap 1100 (.cons (.v 13) .nil)))), (.bin .lt (.v 13) (.v 6))], .ret, ⟨[(2, ⟨[], .ifc 23 (.int .i64 ⟨(.c 1), 1, 1⟩)⟩)], [], 0, 83⟩, ⟨[], []⟩⟩,
  ⟨[(.un .not (.bin .or (.bin .lt (.ap 1100 (.cons (.v 13) .nil)) (.c 0)) (.bin .lt (.c 65536) (.ap 1100 (.cons (.v 13) .nil))))), (.bin .lt (.v 13) (.v 6))], .normal, hcS1, ⟨[(13, (.bin .add (.v 13) (.c 1)))], []⟩⟩,
  ⟨[(.bin .le (.v 6) (.v 13))], (.exit 0), hcS1, ⟨[], []⟩⟩]
def hcV1 : List VC := []
theorem hc_ran1 : ran (runP Try.prog 23 (cfgK lineSum hcKeeps 50 12) 112 (loopOf Try.prog 112 10) hcS1) hcL1 hcV1 = true := by kernel_rfl
def hcW1 : List VC := []
theorem hc_defs1 : defs hcV1 [] [] = hcW1 := by kernel_rfl
theorem hc_no1 : hcW1.all VC.isNo = true := by kernel_rfl
theorem hc_w1 (ρ : Env) : andV ρ hcW1 = (True) := by kernel_rfl
theorem hc_says1 (ρ : Env) : saysL ρ hcV1 = (True) := by kernel_rfl
theorem hc_1_pc0 (ρ : Env) : andB ρ [(.bin .or (.bin .lt (.ap 1100 (.cons (.v 13) .nil)) (.c 0)) (.bin .lt (.c 65536) (.ap 1100 (.cons (.v 13) .nil)))), (.bin .lt (.v 13) (.v 6))] = (((decide ((ρ.fn 1100 ((ρ.iv 13) :: [])) < (0 : Int))) || (decide ((65536 : Int) < (ρ.fn 1100 ((ρ.iv 13) :: []))))) = true ∧ (decide ((ρ.iv 13) < (ρ.iv 6))) = true ∧ True) := by kernel_rfl
theorem hc_1_pc1 (ρ : Env) : andB ρ [(.un .not (.bin .or (.bin .lt (.ap 1100 (.cons (.v 13) .nil)) (.c 0)) (.bin .lt (.c 65536) (.ap 1100 (.cons (.v 13) .nil))))), (.bin .lt (.v 13) (.v 6))] = ((!((decide ((ρ.fn 1100 ((ρ.iv 13) :: [])) < (0 : Int))) || (decide ((65536 : Int) < (ρ.fn 1100 ((ρ.iv 13) :: [])))))) = true ∧ (decide ((ρ.iv 13) < (ρ.iv 6))) = true ∧ True) := by kernel_rfl
theorem hc_1_pc2 (ρ : Env) : andB ρ [(.bin .le (.v 6) (.v 13))] = ((decide ((ρ.iv 6) ≤ (ρ.iv 13))) = true ∧ True) := by kernel_rfl
def hcL2 : List LS := [⟨[], .ret, ⟨[(2, ⟨[], .nili⟩)], [], 0, 83⟩, ⟨[], []⟩⟩]
def hcV2 : List VC := []
theorem hc_ran2 : ran (runP Try.prog 23 (cfgK lineSum hcKeeps 50 12) 112 (partOf Try.prog 112 11 13) hcS1) hcL2 hcV2 = true := by kernel_rfl
def hcW2 : List VC := []
theorem hc_defs2 : defs hcV2 [] [] = hcW2 := by kernel_rfl
theorem hc_no2 : hcW2.all VC.isNo = true := by kernel_rfl
theorem hc_w2 (ρ : Env) : andV ρ hcW2 = (True) := by kernel_rfl
theorem hc_says2 (ρ : Env) : saysL ρ hcV2 = (True) := by kernel_rfl
theorem hc_2_pc0 (ρ : Env) : andB ρ [] = (True) := by kernel_rfl
def hrKeeps : List (Nat × List (Nat × List Nat)) := [(30, [(0, [0, 1]), (1, [1, 5]), (2, [4]), (3, [4])]),
  (39, [(0, [0]), (1, [0, 3]), (2, [0, 3, 7]), (3, [0, 3]), (4, [0, 3, 14]), (5, [2]), (6, [2])]),
  (47, [(0, [0, 1, 2]), (1, [6])]),
  (78, [(0, [1]), (1, [2])]),
  (113, [(0, [1]), (1, [1, 3]), (2, [1, 4]), (3, [1, 4, 5]), (4, [1, 4, 5, 52]), (5, [1, 4, 5]), (6, [1, 4, 5]), (7, [2])]),
  (146, [(0, [0]), (1, [0, 3]), (2, [0, 3, 4]), (3, [0, 3, 4, 8]), (4, [0, 3, 4]), (5, [0, 3, 4]), (6, [2])]),
  (147, [(0, [0]), (1, [0, 3]), (2, [0, 3, 7]), (3, [0, 3]), (4, [0, 3, 15]), (5, [2]), (6, [2])])]
def hrArgs : List SV := [.agg [.int .i64 ⟨(.v 20), (-9223372036854775808), 9223372036854775807⟩, .int .i64 ⟨(.v 21), (-9223372036854775808), 9223372036854775807⟩, .int .i64 ⟨(.v 22), (-9223372036854775808), 9223372036854775807⟩, .int .i64 ⟨(.v 23), (-9223372036854775808), 9223372036854775807⟩, .int .i64 ⟨(.v 24), (-9223372036854775808), 9223372036854775807⟩, .osl 0 [.int .i64 (-9223372036854775808) 9223372036854775807] ⟨(.v 4), 0, 1000⟩, .osl 1 [.int .i64 (-9223372036854775808) 9223372036854775807] ⟨(.v 6), 0, 1000⟩]]
def hrS1 : St := ⟨[(5, ⟨[], .int .i64 ⟨(.v 13), 0, 1000⟩⟩), (1, ⟨[], .ptr 0 0⟩), (4, ⟨[], .int .i64 ⟨(.v 14), 0, 5⟩⟩)], [(0, ⟨[], ⟨[.int .i64 ⟨(.v 20), (-9223372036854775808), 9223372036854775807⟩, .int .i64 ⟨(.v 21), (-9223372036854775808), 9223372036854775807⟩, .int .i64 ⟨(.v 22), (-9223372036854775808), 9223372036854775807⟩, .int .i64 ⟨(.v 23), (-9223372036854775808), 9223372036854775807⟩, .int .i64 ⟨(.v 24), (-9223372036854775808), 9223372036854775807⟩, .osl 0 [.int .i64 (-9223372036854775808) 9223372036854775807] ⟨(.v 4), 0, 1000⟩, .osl 1 [.int .i64 (-9223372036854775808) 9223372036854775807] ⟨(.v 6), 0, 1000⟩], 166, .full⟩⟩)], 2, 68⟩
def hrL0 : List LS := [⟨[], .normal, hrS1, ⟨[(13, (.c 0)), (14, (.v 605591424181410422))], []⟩⟩]
def hrV0 : List VC := [⟨[], (.ite (.bv 1984886886686585156) (.bin .and (.bin .and (.bin .and (.bin .and (.bin .le (.c (-100000)) (.v 20)) (.bin .le (.v 20) (.c 100000))) (.bin .and (.bin .le (.c (-100000)) (.v 21)) (.bin .le (.v 21) (.c 100000)))) (.bin .and (.bin .le (.c 0) (.v 22)) (.bin .le (.v 22) (.c 1000)))) (.bin .and (.bin .le (.c 0) (.v 23)) (.bin .le (.v 23) (.c 65536)))) (.un .not (.bin .and (.bin .and (.bin .and (.bin .and (.bin .le (.c (-100000)) (.v 20)) (.bin .le (.v 20) (.c 100000))) (.bin .and (.bin .le (.c (-100000)) (.v 21)) (.bin .le (.v 21) (.c 100000)))) (.bin .and (.bin .le (.c 0) (.v 22)) (.bin .le (.v 22) (.c 1000)))) (.bin .and (.bin .le (.c 0) (.v 23)) (.bin .le (.v 23) (.c 65536))))))⟩,
  ⟨[], (.bin .eq (.v 721152690150289087) (.ite (.un .not (.bin .and (.bv 1984886886686585156) (.bin .and (.bin .le (.c 1) (.v 24)) (.bin .le (.v 24) (.c 4000))))) (.c 1) (.c 0)))⟩,
  ⟨[], (.bin .eq (.v 605591424181410422) (.ite (.un .not (.bin .eq (.v 721152690150289087) (.c 0))) (.v 721152690150289087) (.ite (.un .not (.bin .eq (.ite (.bin .lt (.v 21) (.v 20)) (.c 3) (.c 0)) (.c 0))) (.ite (.bin .lt (.v 21) (.v 20)) (.c 3) (.c 0)) (.ite (.un .not (.bin .eq (.ap 62 (.cons (.c 0) (.cons (.c 1) .nil))) (.c 0))) (.ap 62 (.cons (.c 0) (.cons (.c 1) .nil))) (.c 0)))))⟩,
  ⟨[], (.bin .eq (.v 802021323893188725) (.ite (.un .not (.bin .eq (.v 721152690150289087) (.c 0))) (.ite (.bin .lt (.v 21) (.v 20)) (.c 3) (.c 0)) (.ite (.un .not (.bin .eq (.ite (.bin .lt (.v 21) (.v 20)) (.c 3) (.c 0)) (.c 0))) (.ite (.bin .lt (.v 21) (.v 20)) (.c 3) (.c 0)) (.c 0))))⟩,
  ⟨[], (.bin .eq (.v 230136151862848700) (.ite (.un .not (.bin .eq (.v 721152690150289087) (.c 0))) (.ap 62 (.cons (.c 0) (.cons (.c 1) .nil))) (.ite (.un .not (.bin .eq (.ite (.bin .lt (.v 21) (.v 20)) (.c 3) (.c 0)) (.c 0))) (.ap 62 (.cons (.c 0) (.cons (.c 1) .nil))) (.ite (.un .not (.bin .eq (.ap 62 (.cons (.c 0) (.cons (.c 1) .nil))) (.c 0))) (.ap 62 (.cons (.c 0) (.cons (.c 1) .nil))) (.c 0)))))⟩]
theorem hr_ran0 : ran (runP Try.prog 23 (cfgK lineSum hrKeeps 50 12) 113 (partOf Try.prog 113 0 4) (start Try.prog 113 hrArgs [] 0)) hrL0 hrV0 = true := by kernel_rfl
def hrW0 : List VC := []
theorem hr_defs0 : defs hrV0 [] [] = hrW0 := by kernel_rfl
theorem hr_no0 : hrW0.all VC.isNo = true := by kernel_rfl
theorem hr_w0 (ρ : Env) : andV ρ hrW0 = (True) := by kernel_rfl
theorem hr_says0 (ρ : Env) : saysL ρ hrV0 = (ρ.bv 1984886886686585156 = (((((decide ((-100000 : Int) ≤ (ρ.iv 20))) && (decide ((ρ.iv 20) ≤ (100000 : Int)))) && ((decide ((-100000 : Int) ≤ (ρ.iv 21))) && (decide ((ρ.iv 21) ≤ (100000 : Int))))) && ((decide ((0 : Int) ≤ (ρ.iv 22))) && (decide ((ρ.iv 22) ≤ (1000 : Int))))) && ((decide ((0 : Int) ≤ (ρ.iv 23))) && (decide ((ρ.iv 23) ≤ (65536 : Int))))) ∧
  ρ.iv 721152690150289087 = (if (!((ρ.bv 1984886886686585156) && ((decide ((1 : Int) ≤ (ρ.iv 24))) && (decide ((ρ.iv 24) ≤ (4000 : Int)))))) = true then (1 : Int) else (0 : Int)) ∧
  ρ.iv 605591424181410422 = (if (!(decide ((ρ.iv 721152690150289087) = (0 : Int)))) = true then (ρ.iv 721152690150289087) else (if (!(decide ((if (decide ((ρ.iv 21) < (ρ.iv 20))) = true then (3 : Int) else (0 : Int)) = (0 : Int)))) = true then (if (decide ((ρ.iv 21) < (ρ.iv 20))) = true then (3 : Int) else (0 : Int)) else (if (!(decide ((ρ.fn 62 ((0 : Int) :: ((1 : Int) :: []))) = (0 : Int)))) = true then (ρ.fn 62 ((0 : Int) :: ((1 : Int) :: []))) else (0 : Int)))) ∧
  ρ.iv 802021323893188725 = (if (!(decide ((ρ.iv 721152690150289087) = (0 : Int)))) = true then (if (decide ((ρ.iv 21) < (ρ.iv 20))) = true then (3 : Int) else (0 : Int)) else (if (!(decide ((if (decide ((ρ.iv 21) < (ρ.iv 20))) = true then (3 : Int) else (0 : Int)) = (0 : Int)))) = true then (if (decide ((ρ.iv 21) < (ρ.iv 20))) = true then (3 : Int) else (0 : Int)) else (0 : Int))) ∧
  ρ.iv 230136151862848700 = (if (!(decide ((ρ.iv 721152690150289087) = (0 : Int)))) = true then (ρ.fn 62 ((0 : Int) :: ((1 : Int) :: []))) else (if (!(decide ((if (decide ((ρ.iv 21) < (ρ.iv 20))) = true then (3 : Int) else (0 : Int)) = (0 : Int)))) = true then (ρ.fn 62 ((0 : Int) :: ((1 : Int) :: []))) else (if (!(decide ((ρ.fn 62 ((0 : Int) :: ((1 : Int) :: []))) = (0 : Int)))) = true then (ρ.fn 62 ((0 : Int) :: ((1 : Int) :: []))) else (0 : Int)))) ∧
  True) := by kernel_rfl
theorem hr_0_pc0 (ρ : Env) : andB ρ [] = (True) := by kernel_rfl
def hrL1 : List LS := [⟨[(.bin .lt (.v 13) (.v 6))], .normal, hrS1, ⟨[(13, (.bin .add (.v 13) (.c 1))), (14, (.v 1816263425845145449))], []⟩⟩,
  ⟨[(.bin .le (.v 6) (.v 13))], (.exit 0), hrS1, ⟨[], []⟩⟩]
def hrV1 : List VC := [⟨[], (.bin .eq (.v 1328276267281285362) (.ite (.un .not (.bin .and (.bin .le (.c 0) (.ap 1100 (.cons (.v 13) .nil))) (.bin .le (.ap 1100 (.cons (.v 13) .nil)) (.c 65536)))) (.c 1) (.c 0)))⟩,
  ⟨[], (.bin .eq (.v 1816263425845145449) (.ite (.un .not (.bin .eq (.v 14) (.c 0))) (.v 14) (.ite (.un .not (.bin .eq (.v 1328276267281285362) (.c 0))) (.v 1328276267281285362) (.c 0))))⟩,
  ⟨[], (.bin .eq (.v 1246756237783304011) (.ite (.un .not (.bin .eq (.v 14) (.c 0))) (.v 1328276267281285362) (.ite (.un .not (.bin .eq (.v 1328276267281285362) (.c 0))) (.v 1328276267281285362) (.c 0))))⟩]
theorem hr_ran1 : ran (runP Try.prog 23 (cfgK lineSum hrKeeps 50 12) 113 (loopOf Try.prog 113 4) hrS1) hrL1 hrV1 = true := by kernel_rfl
def hrW1 : List VC := []
theorem hr_defs1 : defs hrV1 [] [] = hrW1 := by kernel_rfl
theorem hr_no1 : hrW1.all VC.isNo = true := by kernel_rfl
theorem hr_w1 (ρ : Env) : andV ρ hrW1 = (True) := by kernel_rfl
theorem hr_says1 (ρ : Env) : saysL ρ hrV1 = (ρ.iv 1328276267281285362 = (if (!((decide ((0 : Int) ≤ (ρ.fn 1100 ((ρ.iv 13) :: [])))) && (decide ((ρ.fn 1100 ((ρ.iv 13) :: [])) ≤ (65536 : Int))))) = true then (1 : Int) else (0 : Int)) ∧
  ρ.iv 1816263425845145449 = (if (!(decide ((ρ.iv 14) = (0 : Int)))) = true then (ρ.iv 14) else (if (!(decide ((ρ.iv 1328276267281285362) = (0 : Int)))) = true then (ρ.iv 1328276267281285362) else (0 : Int))) ∧
  ρ.iv 1246756237783304011 = (if (!(decide ((ρ.iv 14) = (0 : Int)))) = true then (ρ.iv 1328276267281285362) else (if (!(decide ((ρ.iv 1328276267281285362) = (0 : Int)))) = true then (ρ.iv 1328276267281285362) else (0 : Int))) ∧
  True) := by kernel_rfl
theorem hr_1_pc0 (ρ : Env) : andB ρ [(.bin .lt (.v 13) (.v 6))] = ((decide ((ρ.iv 13) < (ρ.iv 6))) = true ∧ True) := by kernel_rfl
theorem hr_1_pc1 (ρ : Env) : andB ρ [(.bin .le (.v 6) (.v 13))] = ((decide ((ρ.iv 6) ≤ (ρ.iv 13))) = true ∧ True) := by kernel_rfl
def hrL2 : List LS := [⟨[], .ret, ⟨[(2, ⟨[], .int .i64 ⟨(.v 900), 0, 5⟩⟩)], [], 0, 68⟩, ⟨[(900, (.v 14))], []⟩⟩]
def hrV2 : List VC := []
theorem hr_ran2 : ran (runP Try.prog 23 (cfgK lineSum hrKeeps 50 12) 113 (partOf Try.prog 113 5 7) hrS1) hrL2 hrV2 = true := by kernel_rfl
def hrW2 : List VC := []
theorem hr_defs2 : defs hrV2 [] [] = hrW2 := by kernel_rfl
theorem hr_no2 : hrW2.all VC.isNo = true := by kernel_rfl
theorem hr_w2 (ρ : Env) : andV ρ hrW2 = (True) := by kernel_rfl
theorem hr_says2 (ρ : Env) : saysL ρ hrV2 = (True) := by kernel_rfl
theorem hr_2_pc0 (ρ : Env) : andB ρ [] = (True) := by kernel_rfl
end Go.Proofs.Ytdfpenjhpemokaa.Sx
