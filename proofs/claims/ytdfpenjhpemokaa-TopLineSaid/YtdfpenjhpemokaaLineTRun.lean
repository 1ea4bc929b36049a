/-
  R.LineMay and R.HoldRuleMay, where the second list is of any length: worked out. Written by a program of ours (wip/dev/sx).
-/
import Derived.Test.YtdfpenjhpemokaaLineTB
import Derived.Test.YtdfpenjhpemokaaProg
set_option linter.unusedVariables false
set_option linter.unusedSimpArgs false
namespace Go.Proofs.Ytdfpenjhpemokaa.Sx
def lMKeeps : List (Nat × List (Nat × List Nat)) := [(30, [(0, [0, 1]), (1, [1, 5]), (2, [4]), (3, [4])]),
  (39, [(0, [0]), (1, [0, 3]), (2, [0, 3, 7]), (3, [0, 3]), (4, [0, 3, 14]), (5, [2]), (6, [2])]),
  (47, [(0, [0, 1, 2]), (1, [6])]),
  (78, [(0, [1]), (1, [2])]),
  (146, [(0, [0]), (1, [0, 3]), (2, [0, 3, 4]), (3, [0, 3, 4, 8]), (4, [0, 3, 4]), (5, [0, 3, 4]), (6, [2])]),
  (147, [(0, [0]), (1, [0, 3]), (2, [0, 3, 7]), (3, [0, 3]), (4, [0, 3, 15]), (5, [2]), (6, [2])])]
def lMArgs : List SV := [.agg [.osl 0 [.int .i64 (-9223372036854775808) 9223372036854775807] ⟨(.v 4), 0, 1000⟩, .osl 1 [.int .i64 (-9223372036854775808) 9223372036854775807] ⟨(.v 6), 0, 9223372036854775807⟩]]
def lML0 : List LS := [⟨[], .ret, ⟨[(2, ⟨[], .int .i64 ⟨(.v 900), 0, 5⟩⟩)], [], 0, 19⟩, ⟨[(900, (.v 382609464082087397))], []⟩⟩]
def lMV0 : List VC := [⟨[], (.bin .eq (.v 382609464082087397) (.ite (.un .not (.bin .eq (.ite (.un .not (.bin .eq (.v 4) (.v 6))) (.c 3) (.c 0)) (.c 0))) (.ite (.un .not (.bin .eq (.v 4) (.v 6))) (.c 3) (.c 0)) (.ite (.un .not (.bin .eq (.ap 61 (.cons (.c 0) .nil)) (.c 0))) (.ap 61 (.cons (.c 0) .nil)) (.ite (.un .not (.bin .eq (.ap 60 (.cons (.c 1) .nil)) (.c 0))) (.ap 60 (.cons (.c 1) .nil)) (.c 0)))))⟩,
  ⟨[], (.bin .eq (.v 1982384564458031113) (.ite (.un .not (.bin .eq (.ite (.un .not (.bin .eq (.v 4) (.v 6))) (.c 3) (.c 0)) (.c 0))) (.ite (.un .not (.bin .eq (.v 4) (.v 6))) (.c 3) (.c 0)) (.c 0)))⟩,
  ⟨[], (.bin .eq (.v 963798803453547861) (.ite (.un .not (.bin .eq (.ite (.un .not (.bin .eq (.v 4) (.v 6))) (.c 3) (.c 0)) (.c 0))) (.ap 61 (.cons (.c 0) .nil)) (.ite (.un .not (.bin .eq (.ap 61 (.cons (.c 0) .nil)) (.c 0))) (.ap 61 (.cons (.c 0) .nil)) (.c 0))))⟩,
  ⟨[], (.bin .eq (.v 1244526461393872718) (.ite (.un .not (.bin .eq (.ite (.un .not (.bin .eq (.v 4) (.v 6))) (.c 3) (.c 0)) (.c 0))) (.ap 60 (.cons (.c 1) .nil)) (.ite (.un .not (.bin .eq (.ap 61 (.cons (.c 0) .nil)) (.c 0))) (.ap 60 (.cons (.c 1) .nil)) (.ite (.un .not (.bin .eq (.ap 60 (.cons (.c 1) .nil)) (.c 0))) (.ap 60 (.cons (.c 1) .nil)) (.c 0)))))⟩]
theorem lM_ran0 : ran (runP Try.prog 23 (cfgK lMSum lMKeeps 50 12) 78 (partsOf Try.prog 78) (start Try.prog 78 lMArgs [] 0)) lML0 lMV0 = true := by kernel_rfl
def lMW0 : List VC := []
theorem lM_defs0 : defs lMV0 [] [] = lMW0 := by kernel_rfl
theorem lM_no0 : lMW0.all VC.isNo = true := by kernel_rfl
theorem lM_w0 (ρ : Env) : andV ρ lMW0 = (True) := by kernel_rfl
theorem lM_says0 (ρ : Env) : saysL ρ lMV0 = (ρ.iv 382609464082087397 = (if (!(decide ((if (!(decide ((ρ.iv 4) = (ρ.iv 6)))) = true then (3 : Int) else (0 : Int)) = (0 : Int)))) = true then (if (!(decide ((ρ.iv 4) = (ρ.iv 6)))) = true then (3 : Int) else (0 : Int)) else (if (!(decide ((ρ.fn 61 ((0 : Int) :: [])) = (0 : Int)))) = true then (ρ.fn 61 ((0 : Int) :: [])) else (if (!(decide ((ρ.fn 60 ((1 : Int) :: [])) = (0 : Int)))) = true then (ρ.fn 60 ((1 : Int) :: [])) else (0 : Int)))) ∧
  ρ.iv 1982384564458031113 = (if (!(decide ((if (!(decide ((ρ.iv 4) = (ρ.iv 6)))) = true then (3 : Int) else (0 : Int)) = (0 : Int)))) = true then (if (!(decide ((ρ.iv 4) = (ρ.iv 6)))) = true then (3 : Int) else (0 : Int)) else (0 : Int)) ∧
  ρ.iv 963798803453547861 = (if (!(decide ((if (!(decide ((ρ.iv 4) = (ρ.iv 6)))) = true then (3 : Int) else (0 : Int)) = (0 : Int)))) = true then (ρ.fn 61 ((0 : Int) :: [])) else (if (!(decide ((ρ.fn 61 ((0 : Int) :: [])) = (0 : Int)))) = true then (ρ.fn 61 ((0 : Int) :: [])) else (0 : Int))) ∧
  ρ.iv 1244526461393872718 = (if (!(decide ((if (!(decide ((ρ.iv 4) = (ρ.iv 6)))) = true then (3 : Int) else (0 : Int)) = (0 : Int)))) = true then (ρ.fn 60 ((1 : Int) :: [])) else (if (!(decide ((ρ.fn 61 ((0 : Int) :: [])) = (0 : Int)))) = true then (ρ.fn 60 ((1 : Int) :: [])) else (if (!(decide ((ρ.fn 60 ((1 : Int) :: [])) = (0 : Int)))) = true then (ρ.fn 60 ((1 : Int) :: [])) else (0 : Int)))) ∧
  True) := by kernel_rfl
theorem lM_0_pc0 (ρ : Env) : andB ρ [] = (True) := by kernel_rfl
def hRKeeps : List (Nat × List (Nat × List Nat)) := [(30, [(0, [0, 1]), (1, [1, 5]), (2, [4]), (3, [4])]),
  (39, [(0, [0]), (1, [0, 3]), (2, [0, 3, 7]), (3, [0, 3]), (4, [0, 3, 14]), (5, [2]), (6, [2])]),
  (47, [(0, [0, 1, 2]), (1, [6])]),
  (78, [(0, [1]), (1, [2])]),
  (113, [(0, [1]), (1, [1, 3]), (2, [1, 4]), (3, [1, 4, 5]), (4, [1, 4, 5, 52]), (5, [1, 4, 5]), (6, [1, 4, 5]), (7, [2])]),
  (146, [(0, [0]), (1, [0, 3]), (2, [0, 3, 4]), (3, [0, 3, 4, 8]), (4, [0, 3, 4]), (5, [0, 3, 4]), (6, [2])]),
  (147, [(0, [0]), (1, [0, 3]), (2, [0, 3, 7]), (3, [0, 3]), (4, [0, 3, 15]), (5, [2]), (6, [2])])]
def hRArgs : List SV := [.agg [.int .i64 ⟨(.v 20), (-9223372036854775808), 9223372036854775807⟩, .int .i64 ⟨(.v 21), (-9223372036854775808), 9223372036854775807⟩, .int .i64 ⟨(.v 22), (-9223372036854775808), 9223372036854775807⟩, .int .i64 ⟨(.v 23), (-9223372036854775808), 9223372036854775807⟩, .int .i64 ⟨(.v 24), (-9223372036854775808), 9223372036854775807⟩, .osl 0 [.int .i64 (-9223372036854775808) 9223372036854775807] ⟨(.v 4), 0, 1000⟩, .osl 1 [.int .i64 (-9223372036854775808) 9223372036854775807] ⟨(.v 6), 0, 9223372036854775807⟩]]
def hRS1 : St := ⟨[(5, ⟨[], .int .i64 ⟨(.v 13), 0, 9223372036854775807⟩⟩), (1, ⟨[], .ptr 0 0⟩), (4, ⟨[], .int .i64 ⟨(.v 14), 0, 5⟩⟩)], [(0, ⟨[], ⟨[.int .i64 ⟨(.v 20), (-9223372036854775808), 9223372036854775807⟩, .int .i64 ⟨(.v 21), (-9223372036854775808), 9223372036854775807⟩, .int .i64 ⟨(.v 22), (-9223372036854775808), 9223372036854775807⟩, .int .i64 ⟨(.v 23), (-9223372036854775808), 9223372036854775807⟩, .int .i64 ⟨(.v 24), (-9223372036854775808), 9223372036854775807⟩, .osl 0 [.int .i64 (-9223372036854775808) 9223372036854775807] ⟨(.v 4), 0, 1000⟩, .osl 1 [.int .i64 (-9223372036854775808) 9223372036854775807] ⟨(.v 6), 0, 9223372036854775807⟩], 166, .full⟩⟩)], 2, 68⟩
def hRL0 : List LS := [⟨[], .normal, hRS1, ⟨[(13, (.c 0)), (14, (.v 605591424181410422))], []⟩⟩]
def hRV0 : List VC := [⟨[], (.ite (.bv 1984886886686585156) (.bin .and (.bin .and (.bin .and (.bin .and (.bin .le (.c (-100000)) (.v 20)) (.bin .le (.v 20) (.c 100000))) (.bin .and (.bin .le (.c (-100000)) (.v 21)) (.bin .le (.v 21) (.c 100000)))) (.bin .and (.bin .le (.c 0) (.v 22)) (.bin .le (.v 22) (.c 1000)))) (.bin .and (.bin .le (.c 0) (.v 23)) (.bin .le (.v 23) (.c 65536)))) (.un .not (.bin .and (.bin .and (.bin .and (.bin .and (.bin .le (.c (-100000)) (.v 20)) (.bin .le (.v 20) (.c 100000))) (.bin .and (.bin .le (.c (-100000)) (.v 21)) (.bin .le (.v 21) (.c 100000)))) (.bin .and (.bin .le (.c 0) (.v 22)) (.bin .le (.v 22) (.c 1000)))) (.bin .and (.bin .le (.c 0) (.v 23)) (.bin .le (.v 23) (.c 65536))))))⟩,
  ⟨[], (.bin .eq (.v 721152690150289087) (.ite (.un .not (.bin .and (.bv 1984886886686585156) (.bin .and (.bin .le (.c 1) (.v 24)) (.bin .le (.v 24) (.c 4000))))) (.c 1) (.c 0)))⟩,
  ⟨[], (.bin .eq (.v 605591424181410422) (.ite (.un .not (.bin .eq (.v 721152690150289087) (.c 0))) (.v 721152690150289087) (.ite (.un .not (.bin .eq (.ite (.bin .lt (.v 21) (.v 20)) (.c 3) (.c 0)) (.c 0))) (.ite (.bin .lt (.v 21) (.v 20)) (.c 3) (.c 0)) (.ite (.un .not (.bin .eq (.ap 62 (.cons (.c 0) (.cons (.c 1) .nil))) (.c 0))) (.ap 62 (.cons (.c 0) (.cons (.c 1) .nil))) (.c 0)))))⟩,
  ⟨[], (.bin .eq (.v 802021323893188725) (.ite (.un .not (.bin .eq (.v 721152690150289087) (.c 0))) (.ite (.bin .lt (.v 21) (.v 20)) (.c 3) (.c 0)) (.ite (.un .not (.bin .eq (.ite (.bin .lt (.v 21) (.v 20)) (.c 3) (.c 0)) (.c 0))) (.ite (.bin .lt (.v 21) (.v 20)) (.c 3) (.c 0)) (.c 0))))⟩,
  ⟨[], (.bin .eq (.v 230136151862848700) (.ite (.un .not (.bin .eq (.v 721152690150289087) (.c 0))) (.ap 62 (.cons (.c 0) (.cons (.c 1) .nil))) (.ite (.un .not (.bin .eq (.ite (.bin .lt (.v 21) (.v 20)) (.c 3) (.c 0)) (.c 0))) (.ap 62 (.cons (.c 0) (.cons (.c 1) .nil))) (.ite (.un .not (.bin .eq (.ap 62 (.cons (.c 0) (.cons (.c 1) .nil))) (.c 0))) (.ap 62 (.cons (.c 0) (.cons (.c 1) .nil))) (.c 0)))))⟩]
theorem hR_ran0 : ran (runP Try.prog 23 (cfgK hRSum hRKeeps 50 12) 113 (partOf Try.prog 113 0 4) (start Try.prog 113 hRArgs [] 0)) hRL0 hRV0 = true := by kernel_rfl
def hRW0 : List VC := []
theorem hR_defs0 : defs hRV0 [] [] = hRW0 := by kernel_rfl
theorem hR_no0 : hRW0.all VC.isNo = true := by kernel_rfl
theorem hR_w0 (ρ : Env) : andV ρ hRW0 = (True) := by kernel_rfl
theorem hR_says0 (ρ : Env) : saysL ρ hRV0 = (ρ.bv 1984886886686585156 = (((((decide ((-100000 : Int) ≤ (ρ.iv 20))) && (decide ((ρ.iv 20) ≤ (100000 : Int)))) && ((decide ((-100000 : Int) ≤ (ρ.iv 21))) && (decide ((ρ.iv 21) ≤ (100000 : Int))))) && ((decide ((0 : Int) ≤ (ρ.iv 22))) && (decide ((ρ.iv 22) ≤ (1000 : Int))))) && ((decide ((0 : Int) ≤ (ρ.iv 23))) && (decide ((ρ.iv 23) ≤ (65536 : Int))))) ∧
  ρ.iv 721152690150289087 = (if (!((ρ.bv 1984886886686585156) && ((decide ((1 : Int) ≤ (ρ.iv 24))) && (decide ((ρ.iv 24) ≤ (4000 : Int)))))) = true then (1 : Int) else (0 : Int)) ∧
  ρ.iv 605591424181410422 = (if (!(decide ((ρ.iv 721152690150289087) = (0 : Int)))) = true then (ρ.iv 721152690150289087) else (if (!(decide ((if (decide ((ρ.iv 21) < (ρ.iv 20))) = true then (3 : Int) else (0 : Int)) = (0 : Int)))) = true then (if (decide ((ρ.iv 21) < (ρ.iv 20))) = true then (3 : Int) else (0 : Int)) else (if (!(decide ((ρ.fn 62 ((0 : Int) :: ((1 : Int) :: []))) = (0 : Int)))) = true then (ρ.fn 62 ((0 : Int) :: ((1 : Int) :: []))) else (0 : Int)))) ∧
  ρ.iv 802021323893188725 = (if (!(decide ((ρ.iv 721152690150289087) = (0 : Int)))) = true then (if (decide ((ρ.iv 21) < (ρ.iv 20))) = true then (3 : Int) else (0 : Int)) else (if (!(decide ((if (decide ((ρ.iv 21) < (ρ.iv 20))) = true then (3 : Int) else (0 : Int)) = (0 : Int)))) = true then (if (decide ((ρ.iv 21) < (ρ.iv 20))) = true then (3 : Int) else (0 : Int)) else (0 : Int))) ∧
  ρ.iv 230136151862848700 = (if (!(decide ((ρ.iv 721152690150289087) = (0 : Int)))) = true then (ρ.fn 62 ((0 : Int) :: ((1 : Int) :: []))) else (if (!(decide ((if (decide ((ρ.iv 21) < (ρ.iv 20))) = true then (3 : Int) else (0 : Int)) = (0 : Int)))) = true then (ρ.fn 62 ((0 : Int) :: ((1 : Int) :: []))) else (if (!(decide ((ρ.fn 62 ((0 : Int) :: ((1 : Int) :: []))) = (0 : Int)))) = true then (ρ.fn 62 ((0 : Int) :: ((1 : Int) :: []))) else (0 : Int)))) ∧
  True) := by kernel_rfl
theorem hR_0_pc0 (ρ : Env) : andB ρ [] = (True) := by kernel_rfl
def hRL1 : List LS := [⟨[(.bin .lt (.v 13) (.v 6))], .normal, hRS1, ⟨[(13, (.un (.wrap .i64) (.bin .add (.v 13) (.c 1)))), (14, (.v 1816263425845145449))], []⟩⟩,
  ⟨[(.bin .le (.v 6) (.v 13))], (.exit 0), hRS1, ⟨[], []⟩⟩]
def hRV1 : List VC := [⟨[], (.bin .eq (.v 1328276267281285362) (.ite (.un .not (.bin .and (.bin .le (.c 0) (.ap 1100 (.cons (.v 13) .nil))) (.bin .le (.ap 1100 (.cons (.v 13) .nil)) (.c 65536)))) (.c 1) (.c 0)))⟩,
  ⟨[], (.bin .eq (.v 1816263425845145449) (.ite (.un .not (.bin .eq (.v 14) (.c 0))) (.v 14) (.ite (.un .not (.bin .eq (.v 1328276267281285362) (.c 0))) (.v 1328276267281285362) (.c 0))))⟩,
  ⟨[], (.bin .eq (.v 1246756237783304011) (.ite (.un .not (.bin .eq (.v 14) (.c 0))) (.v 1328276267281285362) (.ite (.un .not (.bin .eq (.v 1328276267281285362) (.c 0))) (.v 1328276267281285362) (.c 0))))⟩]
theorem hR_ran1 : ran (runP Try.prog 23 (cfgK hRSum hRKeeps 50 12) 113 (loopOf Try.prog 113 4) hRS1) hRL1 hRV1 = true := by kernel_rfl
def hRW1 : List VC := []
theorem hR_defs1 : defs hRV1 [] [] = hRW1 := by kernel_rfl
theorem hR_no1 : hRW1.all VC.isNo = true := by kernel_rfl
theorem hR_w1 (ρ : Env) : andV ρ hRW1 = (True) := by kernel_rfl
theorem hR_says1 (ρ : Env) : saysL ρ hRV1 = (ρ.iv 1328276267281285362 = (if (!((decide ((0 : Int) ≤ (ρ.fn 1100 ((ρ.iv 13) :: [])))) && (decide ((ρ.fn 1100 ((ρ.iv 13) :: [])) ≤ (65536 : Int))))) = true then (1 : Int) else (0 : Int)) ∧
  ρ.iv 1816263425845145449 = (if (!(decide ((ρ.iv 14) = (0 : Int)))) = true then (ρ.iv 14) else (if (!(decide ((ρ.iv 1328276267281285362) = (0 : Int)))) = true then (ρ.iv 1328276267281285362) else (0 : Int))) ∧
  ρ.iv 1246756237783304011 = (if (!(decide ((ρ.iv 14) = (0 : Int)))) = true then (ρ.iv 1328276267281285362) else (if (!(decide ((ρ.iv 1328276267281285362) = (0 : Int)))) = true then (ρ.iv 1328276267281285362) else (0 : Int))) ∧
  True) := by kernel_rfl
theorem hR_1_pc0 (ρ : Env) : andB ρ [(.bin .lt (.v 13) (.v 6))] = ((decide ((ρ.iv 13) < (ρ.iv 6))) = true ∧ True) := by kernel_rfl
theorem hR_1_pc1 (ρ : Env) : andB ρ [(.bin .le (.v 6) (.v 13))] = ((decide ((ρ.iv 6) ≤ (ρ.iv 13))) = true ∧ True) := by kernel_rfl
def hRL2 : List LS := [⟨[], .ret, ⟨[(2, ⟨[], .int .i64 ⟨(.v 900), 0, 5⟩⟩)], [], 0, 68⟩, ⟨[(900, (.v 14))], []⟩⟩]
def hRV2 : List VC := []
theorem hR_ran2 : ran (runP Try.prog 23 (cfgK hRSum hRKeeps 50 12) 113 (partOf Try.prog 113 5 7) hRS1) hRL2 hRV2 = true := by kernel_rfl
def hRW2 : List VC := []
theorem hR_defs2 : defs hRV2 [] [] = hRW2 := by kernel_rfl
theorem hR_no2 : hRW2.all VC.isNo = true := by kernel_rfl
theorem hR_w2 (ρ : Env) : andV ρ hRW2 = (True) := by kernel_rfl
theorem hR_says2 (ρ : Env) : saysL ρ hRV2 = (True) := by kernel_rfl
theorem hR_2_pc0 (ρ : Env) : andB ρ [] = (True) := by kernel_rfl
end Go.Proofs.Ytdfpenjhpemokaa.Sx
