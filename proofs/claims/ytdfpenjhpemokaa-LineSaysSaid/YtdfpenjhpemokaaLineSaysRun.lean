/-
  The law LineSays: worked out. Written by a program of ours (wip/dev/sx).
-/
import Derived.Test.YtdfpenjhpemokaaLineK
import Derived.Test.YtdfpenjhpemokaaProg
set_option linter.unusedVariables false
set_option linter.unusedSimpArgs false
namespace Go.Proofs.Ytdfpenjhpemokaa.Sx
def lSKeeps : List (Nat × List (Nat × List Nat)) := [(12, [(0, [1, 2]), (1, [1, 2, 20]), (2, [4]), (3, [1, 2, 5]), (4, [1, 2, 5, 6, 7]), (5, [1, 2, 5, 6, 7, 26]), (6, [1, 2, 5, 6, 7]), (7, [1, 2, 5, 6, 7, 8]), (8, [1, 2, 5, 6, 7, 8, 38]), (9, [1, 2, 5, 6, 7, 8]), (10, [1, 2, 5, 6, 7, 8]), (11, [2, 5, 6, 7, 9, 10]), (12, [4])]),
  (30, [(0, [0, 1]), (1, [1, 5]), (2, [4]), (3, [4])]),
  (34, [(0, [0, 1]), (1, [4])]),
  (39, [(0, [0]), (1, [0, 3]), (2, [0, 3, 7]), (3, [0, 3]), (4, [0, 3, 14]), (5, [2]), (6, [2])]),
  (47, [(0, [0, 1, 2]), (1, [6])]),
  (64, [(0, [0, 1]), (1, [0, 1]), (2, [0, 1, 9]), (3, [0]), (4, [4])]),
  (78, [(0, [1]), (1, [2])]),
  (79, [(0, [1, 2]), (1, [1, 2, 5]), (2, [1, 2, 5, 18]), (3, [4]), (4, [1, 2, 5, 29]), (5, [4]), (6, [1, 2, 6]), (7, [1, 2, 6, 42]), (8, [1, 2, 6]), (9, [1, 2, 6, 7]), (10, [4])]),
  (80, [(0, [1, 2]), (1, [1, 2, 6]), (2, [1, 2, 6, 10]), (3, [4, 5]), (4, [4, 5])]),
  (81, [(0, [1]), (1, [1, 10]), (2, [2]), (3, [1, 3]), (4, [1, 3, 16]), (5, [2]), (6, [2])]),
  (82, [(0, [1]), (1, [1, 6]), (2, [2]), (3, [1, 3]), (4, [1, 3, 11]), (5, [1, 3]), (6, [1, 3, 25]), (7, [2]), (8, [2])]),
  (129, [(0, [0]), (1, [0, 6]), (2, [2]), (3, [3, 4]), (4, [3, 13]), (5, [2]), (6, [2])]),
  (133, [(0, [0, 1, 2]), (1, [0, 1, 2, 14]), (2, [6]), (3, [0, 2, 18]), (4, [6]), (5, [6])]),
  (142, [(0, [0, 1]), (1, [4])]),
  (146, [(0, [0]), (1, [0, 3]), (2, [0, 3, 4]), (3, [0, 3, 4, 8]), (4, [0, 3, 4]), (5, [0, 3, 4]), (6, [2])]),
  (147, [(0, [0]), (1, [0, 3]), (2, [0, 3, 7]), (3, [0, 3]), (4, [0, 3, 15]), (5, [2]), (6, [2])]),
  (148, [(0, [0, 1]), (1, [4])]),
  (149, [(0, [1, 2]), (1, [1, 2]), (2, [1, 2, 5]), (3, [1, 2, 5, 6]), (4, [4])]),
  (150, [(0, [0]), (1, [0, 7]), (2, [2]), (3, [0, 11]), (4, [2]), (5, [0, 3]), (6, [0, 3, 16]), (7, [2]), (8, [0, 4]), (9, [0, 4, 21]), (10, [0, 4]), (11, [0, 4, 33]), (12, [2]), (13, [2])]),
  (151, [(0, [0]), (1, [5, 6, 7]), (2, [5, 6, 7, 8]), (3, [4, 5, 6, 7]), (4, [5, 6, 7, 16]), (5, [2]), (6, [5, 6, 7]), (7, [2])]),
  (153, [(0, [0, 1]), (1, [0, 1, 5]), (2, [0, 1, 5, 19]), (3, [0, 1, 5]), (4, [4])]),
  (154, [(0, [0, 1]), (1, [4])]),
  (172, [(0, [0, 1]), (1, [0, 1, 5]), (2, [5, 12]), (3, [5]), (4, [4])])]
def lSArgs : List SV := [.agg [.osl 0 [.int .i64 (-9223372036854775808) 9223372036854775807] ⟨(.v 4), 0, 9223372036854775807⟩, .osl 1 [.int .i64 (-9223372036854775808) 9223372036854775807] ⟨(.v 6), 0, 9223372036854775807⟩], .int .i64 ⟨(.v 5), (-9223372036854775808), 9223372036854775807⟩]
def lSS1 : St := ⟨[(8, ⟨[], .int .i64 ⟨(.v 13), 1, 20⟩⟩), (6, ⟨[], .int .i64 ⟨(.v 14), (-4000000), 4000000⟩⟩), (7, ⟨[], .bool (.bv 13)⟩), (5, ⟨[], .int .i64 ⟨(.v 15), 0, 5⟩⟩), (2, ⟨[], .ptr 0 0⟩), (1, ⟨[], .int .i64 ⟨(.v 5), (-9223372036854775808), 9223372036854775807⟩⟩)], [(0, ⟨[], ⟨[.osl 0 [.int .i64 (-9223372036854775808) 9223372036854775807] ⟨(.v 4), 0, 20⟩, .osl 1 [.int .i64 (-9223372036854775808) 9223372036854775807] ⟨(.v 6), 0, 20⟩], 81, .full⟩⟩)], 1, 82⟩
def lSL0 : List LS := [⟨[(.bin .or (.bin .lt (.c 20) (.v 4)) (.bin .lt (.c 20) (.v 6)))], .ret, ⟨[(4, ⟨[], .bool (.bc true)⟩)], [], 0, 82⟩, ⟨[], []⟩⟩,
  ⟨[(.un .not (.bin .or (.bin .lt (.c 20) (.v 4)) (.bin .lt (.c 20) (.v 6))))], .normal, lSS1, ⟨[(13, (.c 1)), (14, (.v 599159445820635076)), (15, (.ap 62 (.cons (.c 0) (.cons (.c 1) .nil))))], [(13, (.bin .eq (.ap 62 (.cons (.c 0) (.cons (.c 1) .nil))) (.c 0)))]⟩⟩]
def lSV0 : List VC := [⟨[(.bin .eq (.ap 62 (.cons (.c 0) (.cons (.c 1) .nil))) (.c 0)), (.un .not (.bin .or (.bin .lt (.c 20) (.v 4)) (.bin .lt (.c 20) (.v 6))))], (.bin .eq (.ap 62 (.cons (.c 0) (.cons (.c 1) .nil))) (.c 0))⟩,
  ⟨[], (.bin .eq (.v 599159445820635076) (.ite (.bin .eq (.ap 62 (.cons (.c 0) (.cons (.c 1) .nil))) (.c 0)) (.ap 64 (.cons (.c 0) (.cons (.c 1) (.cons (.v 5) .nil)))) (.c 0)))⟩]
theorem lS_ran0 : ran (runP Try.prog 23 (cfgK lineSum lSKeeps 50 12) 12 (partOf Try.prog 12 0 8) (start Try.prog 12 lSArgs [] 0)) lSL0 lSV0 = true := by kernel_rfl
def lSW0 : List VC := [⟨[(.bin .eq (.ap 62 (.cons (.c 0) (.cons (.c 1) .nil))) (.c 0)), (.un .not (.bin .or (.bin .lt (.c 20) (.v 4)) (.bin .lt (.c 20) (.v 6))))], (.bin .eq (.ap 62 (.cons (.c 0) (.cons (.c 1) .nil))) (.c 0))⟩]
theorem lS_defs0 : defs lSV0 [] [] = lSW0 := by kernel_rfl
theorem lS_no0 : lSW0.all VC.isNo = true := by kernel_rfl
theorem lS_w0 (ρ : Env) : andV ρ lSW0 = (((decide ((ρ.fn 62 ((0 : Int) :: ((1 : Int) :: []))) = (0 : Int))) = true ∧ (!((decide ((20 : Int) < (ρ.iv 4))) || (decide ((20 : Int) < (ρ.iv 6))))) = true ∧ True → (decide ((ρ.fn 62 ((0 : Int) :: ((1 : Int) :: []))) = (0 : Int))) = true) ∧ True) := by kernel_rfl
theorem lS_says0 (ρ : Env) : saysL ρ lSV0 = (True ∧
  ρ.iv 599159445820635076 = (if (decide ((ρ.fn 62 ((0 : Int) :: ((1 : Int) :: []))) = (0 : Int))) = true then (ρ.fn 64 ((0 : Int) :: ((1 : Int) :: ((ρ.iv 5) :: [])))) else (0 : Int)) ∧
  True) := by kernel_rfl
theorem lS_0_pc0 (ρ : Env) : andB ρ [(.bin .or (.bin .lt (.c 20) (.v 4)) (.bin .lt (.c 20) (.v 6)))] = (((decide ((20 : Int) < (ρ.iv 4))) || (decide ((20 : Int) < (ρ.iv 6)))) = true ∧ True) := by kernel_rfl
theorem lS_0_pc1 (ρ : Env) : andB ρ [(.un .not (.bin .or (.bin .lt (.c 20) (.v 4)) (.bin .lt (.c 20) (.v 6))))] = ((!((decide ((20 : Int) < (ρ.iv 4))) || (decide ((20 : Int) < (ρ.iv 6))))) = true ∧ True) := by kernel_rfl
def lSL1 : List LS := [⟨[(.bin .and (.bin .lt (.v 13) (.v 6)) (.bin .eq (.v 15) (.c 0)))], .normal, lSS1, ⟨[(13, (.bin .add (.v 13) (.c 1))), (15, (.c 0))], [(13, (.bin .and (.bv 13) (.bin .le (.ap 1100 (.cons (.bin .sub (.v 13) (.c 1)) .nil)) (.ap 1100 (.cons (.v 13) .nil)))))]⟩⟩,
  ⟨[(.un .not (.bin .and (.bin .lt (.v 13) (.v 6)) (.bin .eq (.v 15) (.c 0))))], (.exit 0), lSS1, ⟨[], []⟩⟩]
def lSV1 : List VC := [⟨[(.bv 13), (.bin .and (.bin .lt (.v 13) (.v 6)) (.bin .eq (.v 15) (.c 0)))], (.bin .lt (.bin .sub (.v 13) (.c 1)) (.v 6))⟩]
theorem lS_ran1 : ran (runP Try.prog 23 (cfgK lineSum lSKeeps 50 12) 12 (loopOf Try.prog 12 8) lSS1) lSL1 lSV1 = true := by kernel_rfl
def lSW1 : List VC := [⟨[(.bv 13), (.bin .and (.bin .lt (.v 13) (.v 6)) (.bin .eq (.v 15) (.c 0)))], (.bin .lt (.bin .sub (.v 13) (.c 1)) (.v 6))⟩]
theorem lS_defs1 : defs lSV1 [] [] = lSW1 := by kernel_rfl
theorem lS_no1 : lSW1.all VC.isNo = true := by kernel_rfl
theorem lS_w1 (ρ : Env) : andV ρ lSW1 = (((ρ.bv 13) = true ∧ ((decide ((ρ.iv 13) < (ρ.iv 6))) && (decide ((ρ.iv 15) = (0 : Int)))) = true ∧ True → (decide (((ρ.iv 13) - (1 : Int)) < (ρ.iv 6))) = true) ∧ True) := by kernel_rfl
theorem lS_says1 (ρ : Env) : saysL ρ lSV1 = (True ∧
  True) := by kernel_rfl
theorem lS_1_pc0 (ρ : Env) : andB ρ [(.bin .and (.bin .lt (.v 13) (.v 6)) (.bin .eq (.v 15) (.c 0)))] = (((decide ((ρ.iv 13) < (ρ.iv 6))) && (decide ((ρ.iv 15) = (0 : Int)))) = true ∧ True) := by kernel_rfl
theorem lS_1_pc1 (ρ : Env) : andB ρ [(.un .not (.bin .and (.bin .lt (.v 13) (.v 6)) (.bin .eq (.v 15) (.c 0))))] = ((!((decide ((ρ.iv 13) < (ρ.iv 6))) && (decide ((ρ.iv 15) = (0 : Int))))) = true ∧ True) := by kernel_rfl
def lSL2 : List LS := [⟨[], .ret, ⟨[(4, ⟨[], .bool (.bv 900)⟩)], [], 0, 82⟩, ⟨[], [(900, (.bv 1841589822962181198))]⟩⟩]
def lSV2 : List VC := [⟨[(.bin .eq (.ap 62 (.cons (.c 0) (.cons (.c 1) .nil))) (.c 0))], (.bin .eq (.ap 62 (.cons (.c 0) (.cons (.c 1) .nil))) (.c 0))⟩,
  ⟨[], (.bin .eq (.v 538903193280115043) (.ite (.un .not (.bin .eq (.ap 62 (.cons (.c 0) (.cons (.c 1) .nil))) (.c 0))) (.ap 62 (.cons (.c 0) (.cons (.c 1) .nil))) (.c 0)))⟩,
  ⟨[], (.bin .eq (.v 1615167125149802771) (.ite (.un .not (.bin .eq (.ap 62 (.cons (.c 0) (.cons (.c 1) .nil))) (.c 0))) (.c 0) (.ap 64 (.cons (.c 0) (.cons (.c 1) (.cons (.v 5) .nil))))))⟩,
  ⟨[], (.ite (.bv 1841589822962181198) (.bin .and (.bin .and (.bin .and (.bin .eq (.ap 62 (.cons (.c 0) (.cons (.c 1) .nil))) (.v 15)) (.bin .eq (.v 538903193280115043) (.v 15))) (.bin .eq (.v 1615167125149802771) (.v 14))) (.ite (.ap 65 (.cons (.c 0) (.cons (.c 1) .nil))) (.bv 13) (.un .not (.bv 13)))) (.un .not (.bin .and (.bin .and (.bin .and (.bin .eq (.ap 62 (.cons (.c 0) (.cons (.c 1) .nil))) (.v 15)) (.bin .eq (.v 538903193280115043) (.v 15))) (.bin .eq (.v 1615167125149802771) (.v 14))) (.ite (.ap 65 (.cons (.c 0) (.cons (.c 1) .nil))) (.bv 13) (.un .not (.bv 13))))))⟩]
theorem lS_ran2 : ran (runP Try.prog 23 (cfgK lineSum lSKeeps 50 12) 12 (partOf Try.prog 12 9 12) lSS1) lSL2 lSV2 = true := by kernel_rfl
def lSW2 : List VC := [⟨[(.bin .eq (.ap 62 (.cons (.c 0) (.cons (.c 1) .nil))) (.c 0))], (.bin .eq (.ap 62 (.cons (.c 0) (.cons (.c 1) .nil))) (.c 0))⟩]
theorem lS_defs2 : defs lSV2 [] [] = lSW2 := by kernel_rfl
theorem lS_no2 : lSW2.all VC.isNo = true := by kernel_rfl
theorem lS_w2 (ρ : Env) : andV ρ lSW2 = (((decide ((ρ.fn 62 ((0 : Int) :: ((1 : Int) :: []))) = (0 : Int))) = true ∧ True → (decide ((ρ.fn 62 ((0 : Int) :: ((1 : Int) :: []))) = (0 : Int))) = true) ∧ True) := by kernel_rfl
theorem lS_says2 (ρ : Env) : saysL ρ lSV2 = (True ∧
  ρ.iv 538903193280115043 = (if (!(decide ((ρ.fn 62 ((0 : Int) :: ((1 : Int) :: []))) = (0 : Int)))) = true then (ρ.fn 62 ((0 : Int) :: ((1 : Int) :: []))) else (0 : Int)) ∧
  ρ.iv 1615167125149802771 = (if (!(decide ((ρ.fn 62 ((0 : Int) :: ((1 : Int) :: []))) = (0 : Int)))) = true then (0 : Int) else (ρ.fn 64 ((0 : Int) :: ((1 : Int) :: ((ρ.iv 5) :: []))))) ∧
  ρ.bv 1841589822962181198 = ((((decide ((ρ.fn 62 ((0 : Int) :: ((1 : Int) :: []))) = (ρ.iv 15))) && (decide ((ρ.iv 538903193280115043) = (ρ.iv 15)))) && (decide ((ρ.iv 1615167125149802771) = (ρ.iv 14)))) && (if (ρ.fb 65 ((0 : Int) :: ((1 : Int) :: []))) = true then (ρ.bv 13) else (!(ρ.bv 13)))) ∧
  True) := by kernel_rfl
theorem lS_2_pc0 (ρ : Env) : andB ρ [] = (True) := by kernel_rfl
end Go.Proofs.Ytdfpenjhpemokaa.Sx
