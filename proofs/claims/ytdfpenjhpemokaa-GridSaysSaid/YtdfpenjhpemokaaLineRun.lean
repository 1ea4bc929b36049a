/-
  Lists that rise, pieces of lines: worked out. Written by a program of ours (wip/dev/sx).
-/
import Derived.Test.YtdfpenjhpemokaaLineH
import Derived.Test.YtdfpenjhpemokaaProg
set_option linter.unusedVariables false
set_option linter.unusedSimpArgs false
namespace Go.Proofs.Ytdfpenjhpemokaa.Sx
def trKeeps : List (Nat × List (Nat × List Nat)) := [(150, [(0, [0]), (1, [0, 7]), (2, [2]), (3, [0, 11]), (4, [2]), (5, [0, 3]), (6, [0, 3, 16]), (7, [2]), (8, [0, 4]), (9, [0, 4, 21]), (10, [0, 4]), (11, [0, 4, 33]), (12, [2]), (13, [2])]),
  (151, [(0, [0]), (1, [5, 6, 7]), (2, [5, 6, 7, 8]), (3, [4, 5, 6, 7]), (4, [5, 6, 7, 16]), (5, [2]), (6, [5, 6, 7]), (7, [2])])]
def trArgs : List SV := [.osl 0 [.int .i64 (-9223372036854775808) 9223372036854775807] ⟨(.v 4), 0, 1000⟩]
def trS1 : St := ⟨[(4, ⟨[], .int .i64 ⟨(.v 13), 1, 8⟩⟩), (0, ⟨[], .osl 0 [.int .i64 (-9223372036854775808) 9223372036854775807] ⟨(.v 4), 2, 8⟩⟩)], [], 0, 35⟩
def trL0 : List LS := [⟨[(.bin .lt (.v 4) (.c 2))], .ret, ⟨[(2, ⟨[], .ifc 23 (.int .i64 ⟨(.c 3), 3, 3⟩)⟩)], [], 0, 35⟩, ⟨[], []⟩⟩,
  ⟨[(.bin .lt (.c 8) (.v 4)), (.bin .le (.c 2) (.v 4))], .ret, ⟨[(2, ⟨[], .ifc 23 (.int .i64 ⟨(.c 2), 2, 2⟩)⟩)], [], 0, 35⟩, ⟨[], []⟩⟩,
  ⟨[(.un .not (.bin .eq (.ap 60 (.cons (.c 0) .nil)) (.c 0))), (.bin .le (.v 4) (.c 8)), (.bin .le (.c 2) (.v 4))], .ret, ⟨[(2, ⟨[], .ifc 23 (.int .i64 ⟨(.v 900), 1, 5⟩)⟩)], [], 0, 35⟩, ⟨[(900, (.ap 60 (.cons (.c 0) .nil)))], []⟩⟩,
  ⟨[(.bin .eq (.ap 60 (.cons (.c 0) .nil)) (.c 0)), (.bin .le (.v 4) (.c 8)), (.bin .le (.c 2) (.v 4))], .normal, trS1, ⟨[(13, (.c 1))], []⟩⟩]
def trV0 : List VC := []
theorem tr_ran0 : ran (runP Try.prog 23 (cfgK trSum trKeeps 50 12) 150 (partOf Try.prog 150 0 9) (start Try.prog 150 trArgs [] 0)) trL0 trV0 = true := by kernel_rfl
def trW0 : List VC := []
theorem tr_defs0 : defs trV0 [] [] = trW0 := by kernel_rfl
theorem tr_no0 : trW0.all VC.isNo = true := by kernel_rfl
theorem tr_w0 (ρ : Env) : andV ρ trW0 = (True) := by kernel_rfl
theorem tr_0_pc0 (ρ : Env) : andB ρ [(.bin .lt (.v 4) (.c 2))] = ((decide ((ρ.iv 4) < (2 : Int))) = true ∧ True) := by kernel_rfl
theorem tr_0_pc1 (ρ : Env) : andB ρ [(.bin .lt (.c 8) (.v 4)), (.bin .le (.c 2) (.v 4))] = ((decide ((8 : Int) < (ρ.iv 4))) = true ∧ (decide ((2 : Int) ≤ (ρ.iv 4))) = true ∧ True) := by kernel_rfl
theorem tr_0_pc2 (ρ : Env) : andB ρ [(.un .not (.bin .eq (.ap 60 (.cons (.c 0) .nil)) (.c 0))), (.bin .le (.v 4) (.c 8)), (.bin .le (.c 2) (.v 4))] = ((!(decide ((ρ.fn 60 ((0 : Int) :: [])) = (0 : Int)))) = true ∧ (decide ((ρ.iv 4) ≤ (8 : Int))) = true ∧ (decide ((2 : Int) ≤ (ρ.iv 4))) = true ∧ True) := by kernel_rfl
theorem tr_0_pc3 (ρ : Env) : andB ρ [(.bin .eq (.ap 60 (.cons (.c 0) .nil)) (.c 0)), (.bin .le (.v 4) (.c 8)), (.bin .le (.c 2) (.v 4))] = ((decide ((ρ.fn 60 ((0 : Int) :: [])) = (0 : Int))) = true ∧ (decide ((ρ.iv 4) ≤ (8 : Int))) = true ∧ (decide ((2 : Int) ≤ (ρ.iv 4))) = true ∧ True) := by kernel_rfl
def trL1 : List LS := [⟨[(.bin .le (.ap 1000 (.cons (.v 13) .nil)) (.ap 1000 (.cons (.bin .sub (.v 13) (.c 1)) .nil))), (.bin .lt (.v 13) (.v 4))], .ret, ⟨[(2, ⟨[], .ifc 23 (.int .i64 ⟨(.c 3), 3, 3⟩)⟩)], [], 0, 35⟩, ⟨[], []⟩⟩,
  ⟨[(.bin .lt (.ap 1000 (.cons (.bin .sub (.v 13) (.c 1)) .nil)) (.ap 1000 (.cons (.v 13) .nil))), (.bin .lt (.v 13) (.v 4))], .normal, trS1, ⟨[(13, (.bin .add (.v 13) (.c 1)))], []⟩⟩,
  ⟨[(.bin .le (.v 4) (.v 13))], (.exit 0), trS1, ⟨[], []⟩⟩]
def trV1 : List VC := [⟨[(.bin .lt (.v 13) (.v 4))], (.bin .lt (.bin .sub (.v 13) (.c 1)) (.v 4))⟩]
theorem tr_ran1 : ran (runP Try.prog 23 (cfgK trSum trKeeps 50 12) 150 (loopOf Try.prog 150 9) trS1) trL1 trV1 = true := by kernel_rfl
def trW1 : List VC := [⟨[(.bin .lt (.v 13) (.v 4))], (.bin .lt (.bin .sub (.v 13) (.c 1)) (.v 4))⟩]
theorem tr_defs1 : defs trV1 [] [] = trW1 := by kernel_rfl
theorem tr_no1 : trW1.all VC.isNo = true := by kernel_rfl
theorem tr_w1 (ρ : Env) : andV ρ trW1 = (((decide ((ρ.iv 13) < (ρ.iv 4))) = true ∧ True → (decide (((ρ.iv 13) - (1 : Int)) < (ρ.iv 4))) = true) ∧ True) := by kernel_rfl
theorem tr_1_pc0 (ρ : Env) : andB ρ [(.bin .le (.ap 1000 (.cons (.v 13) .nil)) (.ap 1000 (.cons (.bin .sub (.v 13) (.c 1)) .nil))), (.bin .lt (.v 13) (.v 4))] = ((decide ((ρ.fn 1000 ((ρ.iv 13) :: [])) ≤ (ρ.fn 1000 (((ρ.iv 13) - (1 : Int)) :: [])))) = true ∧ (decide ((ρ.iv 13) < (ρ.iv 4))) = true ∧ True) := by kernel_rfl
theorem tr_1_pc1 (ρ : Env) : andB ρ [(.bin .lt (.ap 1000 (.cons (.bin .sub (.v 13) (.c 1)) .nil)) (.ap 1000 (.cons (.v 13) .nil))), (.bin .lt (.v 13) (.v 4))] = ((decide ((ρ.fn 1000 (((ρ.iv 13) - (1 : Int)) :: [])) < (ρ.fn 1000 ((ρ.iv 13) :: [])))) = true ∧ (decide ((ρ.iv 13) < (ρ.iv 4))) = true ∧ True) := by kernel_rfl
theorem tr_1_pc2 (ρ : Env) : andB ρ [(.bin .le (.v 4) (.v 13))] = ((decide ((ρ.iv 4) ≤ (ρ.iv 13))) = true ∧ True) := by kernel_rfl
def trL2 : List LS := [⟨[], .ret, ⟨[(2, ⟨[], .nili⟩)], [], 0, 35⟩, ⟨[], []⟩⟩]
def trV2 : List VC := []
theorem tr_ran2 : ran (runP Try.prog 23 (cfgK trSum trKeeps 50 12) 150 (partOf Try.prog 150 10 12) trS1) trL2 trV2 = true := by kernel_rfl
def trW2 : List VC := []
theorem tr_defs2 : defs trV2 [] [] = trW2 := by kernel_rfl
theorem tr_no2 : trW2.all VC.isNo = true := by kernel_rfl
theorem tr_w2 (ρ : Env) : andV ρ trW2 = (True) := by kernel_rfl
def tpKeeps : List (Nat × List (Nat × List Nat)) := [(153, [(0, [0, 1]), (1, [0, 1, 5]), (2, [0, 1, 5, 19]), (3, [0, 1, 5]), (4, [4])])]
def tpArgs : List SV := [.osl 0 [.int .i64 (-9223372036854775808) 9223372036854775807] ⟨(.v 4), 0, 1000⟩, .int .i64 ⟨(.v 5), (-9223372036854775808), 9223372036854775807⟩]
def tpS1 : St := ⟨[(5, ⟨[], .int .i64 ⟨(.v 13), 0, 1000⟩⟩), (0, ⟨[], .osl 0 [.int .i64 (-9223372036854775808) 9223372036854775807] ⟨(.v 4), 0, 1000⟩⟩), (1, ⟨[], .int .i64 ⟨(.v 5), (-9223372036854775808), 9223372036854775807⟩⟩)], [], 0, 23⟩
def tpL0 : List LS := [⟨[], .normal, tpS1, ⟨[(13, (.c 0))], []⟩⟩]
def tpV0 : List VC := []
theorem tp_ran0 : ran (runP Try.prog 23 (cfgK noSum tpKeeps 50 12) 153 (partOf Try.prog 153 0 2) (start Try.prog 153 tpArgs [] 0)) tpL0 tpV0 = true := by kernel_rfl
def tpW0 : List VC := []
theorem tp_defs0 : defs tpV0 [] [] = tpW0 := by kernel_rfl
theorem tp_no0 : tpW0.all VC.isNo = true := by kernel_rfl
theorem tp_w0 (ρ : Env) : andV ρ tpW0 = (True) := by kernel_rfl
def tpL1 : List LS := [⟨[(.bin .and (.bin .lt (.bin .add (.v 13) (.c 2)) (.v 4)) (.bin .le (.ap 1000 (.cons (.bin .add (.v 13) (.c 1)) .nil)) (.v 5)))], .normal, tpS1, ⟨[(13, (.bin .add (.v 13) (.c 1)))], []⟩⟩,
  ⟨[(.un .not (.bin .and (.bin .lt (.bin .add (.v 13) (.c 2)) (.v 4)) (.bin .le (.ap 1000 (.cons (.bin .add (.v 13) (.c 1)) .nil)) (.v 5))))], (.exit 0), tpS1, ⟨[], []⟩⟩]
def tpV1 : List VC := [⟨[(.bin .lt (.bin .add (.v 13) (.c 2)) (.v 4))], (.bin .lt (.bin .add (.v 13) (.c 1)) (.v 4))⟩]
theorem tp_ran1 : ran (runP Try.prog 23 (cfgK noSum tpKeeps 50 12) 153 (loopOf Try.prog 153 2) tpS1) tpL1 tpV1 = true := by kernel_rfl
def tpW1 : List VC := [⟨[(.bin .lt (.bin .add (.v 13) (.c 2)) (.v 4))], (.bin .lt (.bin .add (.v 13) (.c 1)) (.v 4))⟩]
theorem tp_defs1 : defs tpV1 [] [] = tpW1 := by kernel_rfl
theorem tp_no1 : tpW1.all VC.isNo = true := by kernel_rfl
theorem tp_w1 (ρ : Env) : andV ρ tpW1 = (((decide (((ρ.iv 13) + (2 : Int)) < (ρ.iv 4))) = true ∧ True → (decide (((ρ.iv 13) + (1 : Int)) < (ρ.iv 4))) = true) ∧ True) := by kernel_rfl
theorem tp_1_pc0 (ρ : Env) : andB ρ [(.bin .and (.bin .lt (.bin .add (.v 13) (.c 2)) (.v 4)) (.bin .le (.ap 1000 (.cons (.bin .add (.v 13) (.c 1)) .nil)) (.v 5)))] = (((decide (((ρ.iv 13) + (2 : Int)) < (ρ.iv 4))) && (decide ((ρ.fn 1000 (((ρ.iv 13) + (1 : Int)) :: [])) ≤ (ρ.iv 5)))) = true ∧ True) := by kernel_rfl
theorem tp_1_pc1 (ρ : Env) : andB ρ [(.un .not (.bin .and (.bin .lt (.bin .add (.v 13) (.c 2)) (.v 4)) (.bin .le (.ap 1000 (.cons (.bin .add (.v 13) (.c 1)) .nil)) (.v 5))))] = ((!((decide (((ρ.iv 13) + (2 : Int)) < (ρ.iv 4))) && (decide ((ρ.fn 1000 (((ρ.iv 13) + (1 : Int)) :: [])) ≤ (ρ.iv 5))))) = true ∧ True) := by kernel_rfl
def tpL2 : List LS := [⟨[], .ret, ⟨[(4, ⟨[], .int .i64 ⟨(.v 900), 0, 1000⟩⟩)], [], 0, 23⟩, ⟨[(900, (.v 13))], []⟩⟩]
def tpV2 : List VC := []
theorem tp_ran2 : ran (runP Try.prog 23 (cfgK noSum tpKeeps 50 12) 153 (partOf Try.prog 153 3 5) tpS1) tpL2 tpV2 = true := by kernel_rfl
def tpW2 : List VC := []
theorem tp_defs2 : defs tpV2 [] [] = tpW2 := by kernel_rfl
theorem tp_no2 : tpW2.all VC.isNo = true := by kernel_rfl
theorem tp_w2 (ρ : Env) : andV ρ tpW2 = (True) := by kernel_rfl
def rrKeeps : List (Nat × List (Nat × List Nat)) := [(30, [(0, [0, 1]), (1, [1, 5]), (2, [4]), (3, [4])]),
  (39, [(0, [0]), (1, [0, 3]), (2, [0, 3, 7]), (3, [0, 3]), (4, [0, 3, 14]), (5, [2]), (6, [2])]),
  (47, [(0, [0, 1, 2]), (1, [6])]),
  (146, [(0, [0]), (1, [0, 3]), (2, [0, 3, 4]), (3, [0, 3, 4, 8]), (4, [0, 3, 4]), (5, [0, 3, 4]), (6, [2])]),
  (147, [(0, [0]), (1, [0, 3]), (2, [0, 3, 7]), (3, [0, 3]), (4, [0, 3, 15]), (5, [2]), (6, [2])])]
def rrArgs : List SV := [.osl 0 [.int .i64 (-9223372036854775808) 9223372036854775807] ⟨(.v 4), 0, 1000⟩]
def rrS1 : St := ⟨[(4, ⟨[], .int .i64 ⟨(.v 13), 1, 1000⟩⟩), (3, ⟨[], .bool (.bv 13)⟩), (0, ⟨[], .osl 0 [.int .i64 (-9223372036854775808) 9223372036854775807] ⟨(.v 4), 0, 1000⟩⟩)], [], 0, 38⟩
def rrL0 : List LS := [⟨[], .normal, rrS1, ⟨[(13, (.c 1))], [(13, (.bc false))]⟩⟩]
def rrV0 : List VC := []
theorem rr_ran0 : ran (runP Try.prog 23 (cfgK rrSum rrKeeps 50 12) 146 (partOf Try.prog 146 0 3) (start Try.prog 146 rrArgs [] 0)) rrL0 rrV0 = true := by kernel_rfl
def rrW0 : List VC := []
theorem rr_defs0 : defs rrV0 [] [] = rrW0 := by kernel_rfl
theorem rr_no0 : rrW0.all VC.isNo = true := by kernel_rfl
theorem rr_w0 (ρ : Env) : andV ρ rrW0 = (True) := by kernel_rfl
def rrL1 : List LS := [⟨[(.bin .lt (.v 13) (.v 4))], .normal, rrS1, ⟨[(13, (.bin .add (.v 13) (.c 1)))], [(13, (.bin .or (.bv 13) (.bin .le (.ap 1000 (.cons (.v 13) .nil)) (.ap 1000 (.cons (.bin .sub (.v 13) (.c 1)) .nil)))))]⟩⟩,
  ⟨[(.bin .le (.v 4) (.v 13))], (.exit 0), rrS1, ⟨[], []⟩⟩]
def rrV1 : List VC := [⟨[(.un .not (.bv 13)), (.bin .lt (.v 13) (.v 4))], (.bin .lt (.bin .sub (.v 13) (.c 1)) (.v 4))⟩]
theorem rr_ran1 : ran (runP Try.prog 23 (cfgK rrSum rrKeeps 50 12) 146 (loopOf Try.prog 146 3) rrS1) rrL1 rrV1 = true := by kernel_rfl
def rrW1 : List VC := [⟨[(.un .not (.bv 13)), (.bin .lt (.v 13) (.v 4))], (.bin .lt (.bin .sub (.v 13) (.c 1)) (.v 4))⟩]
theorem rr_defs1 : defs rrV1 [] [] = rrW1 := by kernel_rfl
theorem rr_no1 : rrW1.all VC.isNo = true := by kernel_rfl
theorem rr_w1 (ρ : Env) : andV ρ rrW1 = (((!(ρ.bv 13)) = true ∧ (decide ((ρ.iv 13) < (ρ.iv 4))) = true ∧ True → (decide (((ρ.iv 13) - (1 : Int)) < (ρ.iv 4))) = true) ∧ True) := by kernel_rfl
theorem rr_1_pc0 (ρ : Env) : andB ρ [(.bin .lt (.v 13) (.v 4))] = ((decide ((ρ.iv 13) < (ρ.iv 4))) = true ∧ True) := by kernel_rfl
theorem rr_1_pc1 (ρ : Env) : andB ρ [(.bin .le (.v 4) (.v 13))] = ((decide ((ρ.iv 4) ≤ (ρ.iv 13))) = true ∧ True) := by kernel_rfl
def rrL2 : List LS := [⟨[], .ret, ⟨[(2, ⟨[], .int .i64 ⟨(.v 900), 0, 5⟩⟩)], [], 0, 38⟩, ⟨[(900, (.v 792717386363595369))], []⟩⟩]
def rrV2 : List VC := [⟨[], (.bin .eq (.v 792717386363595369) (.ite (.un .not (.bin .eq (.ite (.bin .lt (.v 4) (.c 2)) (.c 3) (.c 0)) (.c 0))) (.ite (.bin .lt (.v 4) (.c 2)) (.c 3) (.c 0)) (.ite (.un .not (.bin .eq (.ite (.bin .lt (.c 8) (.v 4)) (.c 2) (.c 0)) (.c 0))) (.ite (.bin .lt (.c 8) (.v 4)) (.c 2) (.c 0)) (.ite (.un .not (.bin .eq (.ap 60 (.cons (.c 0) .nil)) (.c 0))) (.ap 60 (.cons (.c 0) .nil)) (.ite (.un .not (.bin .eq (.ite (.bv 13) (.c 3) (.c 0)) (.c 0))) (.ite (.bv 13) (.c 3) (.c 0)) (.c 0))))))⟩,
  ⟨[], (.bin .eq (.v 1254926496911674763) (.ite (.un .not (.bin .eq (.ite (.bin .lt (.v 4) (.c 2)) (.c 3) (.c 0)) (.c 0))) (.ite (.bin .lt (.v 4) (.c 2)) (.c 3) (.c 0)) (.c 0)))⟩,
  ⟨[], (.bin .eq (.v 1939292464196008097) (.ite (.un .not (.bin .eq (.ite (.bin .lt (.v 4) (.c 2)) (.c 3) (.c 0)) (.c 0))) (.ite (.bin .lt (.c 8) (.v 4)) (.c 2) (.c 0)) (.ite (.un .not (.bin .eq (.ite (.bin .lt (.c 8) (.v 4)) (.c 2) (.c 0)) (.c 0))) (.ite (.bin .lt (.c 8) (.v 4)) (.c 2) (.c 0)) (.c 0))))⟩,
  ⟨[], (.bin .eq (.v 268090355289226090) (.ite (.un .not (.bin .eq (.ite (.bin .lt (.v 4) (.c 2)) (.c 3) (.c 0)) (.c 0))) (.ap 60 (.cons (.c 0) .nil)) (.ite (.un .not (.bin .eq (.ite (.bin .lt (.c 8) (.v 4)) (.c 2) (.c 0)) (.c 0))) (.ap 60 (.cons (.c 0) .nil)) (.ite (.un .not (.bin .eq (.ap 60 (.cons (.c 0) .nil)) (.c 0))) (.ap 60 (.cons (.c 0) .nil)) (.c 0)))))⟩,
  ⟨[], (.bin .eq (.v 11027763218830584) (.ite (.un .not (.bin .eq (.ite (.bin .lt (.v 4) (.c 2)) (.c 3) (.c 0)) (.c 0))) (.ite (.bv 13) (.c 3) (.c 0)) (.ite (.un .not (.bin .eq (.ite (.bin .lt (.c 8) (.v 4)) (.c 2) (.c 0)) (.c 0))) (.ite (.bv 13) (.c 3) (.c 0)) (.ite (.un .not (.bin .eq (.ap 60 (.cons (.c 0) .nil)) (.c 0))) (.ite (.bv 13) (.c 3) (.c 0)) (.ite (.un .not (.bin .eq (.ite (.bv 13) (.c 3) (.c 0)) (.c 0))) (.ite (.bv 13) (.c 3) (.c 0)) (.c 0))))))⟩]
theorem rr_ran2 : ran (runP Try.prog 23 (cfgK rrSum rrKeeps 50 12) 146 (partOf Try.prog 146 4 6) rrS1) rrL2 rrV2 = true := by kernel_rfl
def rrW2 : List VC := []
theorem rr_defs2 : defs rrV2 [] [] = rrW2 := by kernel_rfl
theorem rr_no2 : rrW2.all VC.isNo = true := by kernel_rfl
theorem rr_w2 (ρ : Env) : andV ρ rrW2 = (True) := by kernel_rfl
theorem rr_says2 (ρ : Env) : saysL ρ rrV2 = (ρ.iv 792717386363595369 = (if (!(decide ((if (decide ((ρ.iv 4) < (2 : Int))) = true then (3 : Int) else (0 : Int)) = (0 : Int)))) = true then (if (decide ((ρ.iv 4) < (2 : Int))) = true then (3 : Int) else (0 : Int)) else (if (!(decide ((if (decide ((8 : Int) < (ρ.iv 4))) = true then (2 : Int) else (0 : Int)) = (0 : Int)))) = true then (if (decide ((8 : Int) < (ρ.iv 4))) = true then (2 : Int) else (0 : Int)) else (if (!(decide ((ρ.fn 60 ((0 : Int) :: [])) = (0 : Int)))) = true then (ρ.fn 60 ((0 : Int) :: [])) else (if (!(decide ((if (ρ.bv 13) = true then (3 : Int) else (0 : Int)) = (0 : Int)))) = true then (if (ρ.bv 13) = true then (3 : Int) else (0 : Int)) else (0 : Int))))) ∧
  ρ.iv 1254926496911674763 = (if (!(decide ((if (decide ((ρ.iv 4) < (2 : Int))) = true then (3 : Int) else (0 : Int)) = (0 : Int)))) = true then (if (decide ((ρ.iv 4) < (2 : Int))) = true then (3 : Int) else (0 : Int)) else (0 : Int)) ∧
  ρ.iv 1939292464196008097 = (if (!(decide ((if (decide ((ρ.iv 4) < (2 : Int))) = true then (3 : Int) else (0 : Int)) = (0 : Int)))) = true then (if (decide ((8 : Int) < (ρ.iv 4))) = true then (2 : Int) else (0 : Int)) else (if (!(decide ((if (decide ((8 : Int) < (ρ.iv 4))) = true then (2 : Int) else (0 : Int)) = (0 : Int)))) = true then (if (decide ((8 : Int) < (ρ.iv 4))) = true then (2 : Int) else (0 : Int)) else (0 : Int))) ∧
  ρ.iv 268090355289226090 = (if (!(decide ((if (decide ((ρ.iv 4) < (2 : Int))) = true then (3 : Int) else (0 : Int)) = (0 : Int)))) = true then (ρ.fn 60 ((0 : Int) :: [])) else (if (!(decide ((if (decide ((8 : Int) < (ρ.iv 4))) = true then (2 : Int) else (0 : Int)) = (0 : Int)))) = true then (ρ.fn 60 ((0 : Int) :: [])) else (if (!(decide ((ρ.fn 60 ((0 : Int) :: [])) = (0 : Int)))) = true then (ρ.fn 60 ((0 : Int) :: [])) else (0 : Int)))) ∧
  ρ.iv 11027763218830584 = (if (!(decide ((if (decide ((ρ.iv 4) < (2 : Int))) = true then (3 : Int) else (0 : Int)) = (0 : Int)))) = true then (if (ρ.bv 13) = true then (3 : Int) else (0 : Int)) else (if (!(decide ((if (decide ((8 : Int) < (ρ.iv 4))) = true then (2 : Int) else (0 : Int)) = (0 : Int)))) = true then (if (ρ.bv 13) = true then (3 : Int) else (0 : Int)) else (if (!(decide ((ρ.fn 60 ((0 : Int) :: [])) = (0 : Int)))) = true then (if (ρ.bv 13) = true then (3 : Int) else (0 : Int)) else (if (!(decide ((if (ρ.bv 13) = true then (3 : Int) else (0 : Int)) = (0 : Int)))) = true then (if (ρ.bv 13) = true then (3 : Int) else (0 : Int)) else (0 : Int))))) ∧
  True) := by kernel_rfl
end Go.Proofs.Ytdfpenjhpemokaa.Sx
