/-
  R.Spread: worked out. Written by a program of ours (wip/dev/sx).
-/
import Derived.Test.YtdfpenjhpemokaaShareA
import Derived.Test.YtdfpenjhpemokaaProg
import Derived.Test.YtdfpenjhpemokaaShareT
set_option linter.unusedVariables false
set_option linter.unusedSimpArgs false
namespace Go.Proofs.Ytdfpenjhpemokaa.Sx
def sR1Keeps : List (Nat × List (Nat × List Nat)) := [(49, [(0, [2, 3, 4]), (1, [2, 3, 4, 6]), (2, [4]), (3, [4])]),
  (51, [(0, [0, 1, 2]), (1, [6])]),
  (89, [(0, [1, 2, 3]), (1, [1, 2, 3]), (2, [1, 2, 3, 7]), (3, [1, 2, 3, 7, 39]), (4, [1, 2, 3, 7]), (5, [1, 3, 7, 8]), (6, [1, 3, 7, 8, 9]), (7, [1, 3, 7, 8, 9, 10]), (8, [1, 3, 7, 8, 9, 10, 51]), (9, [1, 3, 7, 8, 9, 10]), (10, [1, 3, 7, 8, 9, 10, 11]), (11, [1, 3, 7, 8, 9, 10, 11, 74]), (12, [1, 3, 7, 8, 9, 10, 11]), (13, [1, 3, 7, 8, 9, 10, 11]), (14, [1, 3, 7, 8, 9, 10]), (15, [6])]),
  (124, [(0, [1, 2, 3]), (1, [1, 2, 3, 7]), (2, [1, 2, 3, 7, 8]), (3, [1, 2, 3, 7, 8, 12]), (4, [1, 2, 3, 7, 8]), (5, [1, 2, 3, 7, 8]), (6, [6])]),
  (155, [(0, [2, 3, 4]), (1, [2, 7]), (2, [6])])]
def sR1Args : List SV := [.agg [.int .i64 ⟨(.v 20), 1, 1000⟩, .int .i64 ⟨(.v 21), 1, 1000⟩, .int .i64 ⟨(.v 22), 0, 1000⟩, .int .i64 ⟨(.v 23), 1, 10⟩], .osl 0 [.int .i64 (-9223372036854775808) 9223372036854775807, .int .i64 (-9223372036854775808) 9223372036854775807, .bool] ⟨(.v 4), 1, 1⟩, .int .i64 ⟨(.v 24), (-9223372036854775808), 9223372036854775807⟩]
def sR1S1 : St := ⟨[(7, ⟨[], .int .i64 ⟨(.v 13), (-1000), 1000⟩⟩), (3, ⟨[], .ptr 0 0⟩), (1, ⟨[], .osl 0 [.int .i64 (-9223372036854775808) 9223372036854775807, .int .i64 (-9223372036854775808) 9223372036854775807, .bool] ⟨(.v 4), 1, 1⟩⟩), (2, ⟨[], .int .i64 ⟨(.v 15), (-4000), 4000⟩⟩)], [(0, ⟨[], ⟨[.int .i64 ⟨(.v 20), 1, 1000⟩, .int .i64 ⟨(.v 21), 1, 1000⟩, .int .i64 ⟨(.v 22), 0, 1000⟩, .int .i64 ⟨(.v 23), 1, 10⟩], 53, .full⟩⟩)], 1, 84⟩
def sR1L0 : List LS := [⟨[], .normal, sR1S1, ⟨[(13, (.v 20)), (15, (.v 764873220800522583))], []⟩⟩]
def sR1V0 : List VC := [⟨[], (.bin .eq (.ap 87 (.cons (.c 0) (.cons (.v 20) (.cons (.v 21) (.cons (.v 22) (.cons (.v 23) .nil)))))) (.c 0))⟩,
  ⟨[], (.bin .eq (.v 470975408974876763) (.ap 84 (.cons (.c 0) (.cons (.v 20) (.cons (.v 21) (.cons (.bin .sub (.c 0) (.v 20)) .nil))))))⟩,
  ⟨[], (.bin .eq (.v 764873220800522583) (.bin .min (.bin .max (.v 24) (.v 470975408974876763)) (.ap 84 (.cons (.c 0) (.cons (.v 20) (.cons (.v 21) (.cons (.v 20) .nil)))))))⟩]
theorem sR1_ran0 : ran (runP Try.prog 23 (cfgK sRSum sR1Keeps 50 12) 89 (partOf Try.prog 89 0 3) (start Try.prog 89 sR1Args [] 0)) sR1L0 sR1V0 = true := by kernel_rfl
def sR1W0 : List VC := [⟨[], (.bin .eq (.ap 87 (.cons (.c 0) (.cons (.v 20) (.cons (.v 21) (.cons (.v 22) (.cons (.v 23) .nil)))))) (.c 0))⟩]
theorem sR1_defs0 : defs sR1V0 [] [] = sR1W0 := by kernel_rfl
theorem sR1_no0 : sR1W0.all VC.isNo = true := by kernel_rfl
theorem sR1_w0 (ρ : Env) : andV ρ sR1W0 = ((True → (decide ((ρ.fn 87 ((0 : Int) :: ((ρ.iv 20) :: ((ρ.iv 21) :: ((ρ.iv 22) :: ((ρ.iv 23) :: [])))))) = (0 : Int))) = true) ∧ True) := by kernel_rfl
theorem sR1_says0 (ρ : Env) : saysL ρ sR1V0 = (True ∧
  ρ.iv 470975408974876763 = (ρ.fn 84 ((0 : Int) :: ((ρ.iv 20) :: ((ρ.iv 21) :: (((0 : Int) - (ρ.iv 20)) :: []))))) ∧
  ρ.iv 764873220800522583 = (min (max (ρ.iv 24) (ρ.iv 470975408974876763)) (ρ.fn 84 ((0 : Int) :: ((ρ.iv 20) :: ((ρ.iv 21) :: ((ρ.iv 20) :: [])))))) ∧
  True) := by kernel_rfl
def sR1L1 : List LS := [⟨[(.bin .and (.bin .lt (.bin .sub (.c 0) (.v 20)) (.v 13)) (.bin .lt (.v 15) (.ap 84 (.cons (.c 0) (.cons (.v 20) (.cons (.v 21) (.cons (.v 13) .nil)))))))], .normal, sR1S1, ⟨[(13, (.bin .sub (.v 13) (.c 1)))], []⟩⟩,
  ⟨[(.un .not (.bin .and (.bin .lt (.bin .sub (.c 0) (.v 20)) (.v 13)) (.bin .lt (.v 15) (.ap 84 (.cons (.c 0) (.cons (.v 20) (.cons (.v 21) (.cons (.v 13) .nil))))))))], (.exit 0), sR1S1, ⟨[], []⟩⟩]
def sR1V1 : List VC := [⟨[(.bin .lt (.bin .sub (.c 0) (.v 20)) (.v 13))], (.bin .eq (.ap 87 (.cons (.c 0) (.cons (.v 20) (.cons (.v 21) (.cons (.v 22) (.cons (.v 23) .nil)))))) (.c 0))⟩]
theorem sR1_ran1 : ran (runP Try.prog 23 (cfgK sRSum sR1Keeps 50 12) 89 (loopOf Try.prog 89 3) sR1S1) sR1L1 sR1V1 = true := by kernel_rfl
def sR1W1 : List VC := [⟨[(.bin .lt (.bin .sub (.c 0) (.v 20)) (.v 13))], (.bin .eq (.ap 87 (.cons (.c 0) (.cons (.v 20) (.cons (.v 21) (.cons (.v 22) (.cons (.v 23) .nil)))))) (.c 0))⟩]
theorem sR1_defs1 : defs sR1V1 [] [] = sR1W1 := by kernel_rfl
theorem sR1_no1 : sR1W1.all VC.isNo = true := by kernel_rfl
theorem sR1_w1 (ρ : Env) : andV ρ sR1W1 = (((decide (((0 : Int) - (ρ.iv 20)) < (ρ.iv 13))) = true ∧ True → (decide ((ρ.fn 87 ((0 : Int) :: ((ρ.iv 20) :: ((ρ.iv 21) :: ((ρ.iv 22) :: ((ρ.iv 23) :: [])))))) = (0 : Int))) = true) ∧ True) := by kernel_rfl
theorem sR1_1_pc0 (ρ : Env) : andB ρ [(.bin .and (.bin .lt (.bin .sub (.c 0) (.v 20)) (.v 13)) (.bin .lt (.v 15) (.ap 84 (.cons (.c 0) (.cons (.v 20) (.cons (.v 21) (.cons (.v 13) .nil)))))))] = (((decide (((0 : Int) - (ρ.iv 20)) < (ρ.iv 13))) && (decide ((ρ.iv 15) < (ρ.fn 84 ((0 : Int) :: ((ρ.iv 20) :: ((ρ.iv 21) :: ((ρ.iv 13) :: [])))))))) = true ∧ True) := by kernel_rfl
theorem sR1_1_pc1 (ρ : Env) : andB ρ [(.un .not (.bin .and (.bin .lt (.bin .sub (.c 0) (.v 20)) (.v 13)) (.bin .lt (.v 15) (.ap 84 (.cons (.c 0) (.cons (.v 20) (.cons (.v 21) (.cons (.v 13) .nil))))))))] = ((!((decide (((0 : Int) - (ρ.iv 20)) < (ρ.iv 13))) && (decide ((ρ.iv 15) < (ρ.fn 84 ((0 : Int) :: ((ρ.iv 20) :: ((ρ.iv 21) :: ((ρ.iv 13) :: []))))))))) = true ∧ True) := by kernel_rfl
def sR1L2 : List LS := [⟨[], .ret, ⟨[(6, ⟨[], .sl 2 0 1 none⟩)], [(2, ⟨[], ⟨[.int .i64 ⟨(.v 900), (-1000), 1001⟩], 3, (.grow 1)⟩⟩)], 3, 84⟩, ⟨[(900, (.ite (.bin .and (.bin .lt (.c 0) (.v 157797374496499192)) (.bv 782741206561574860)) (.bin .add (.v 9375996378674662) (.c 1)) (.v 9375996378674662)))], []⟩⟩]
def sR1V2 : List VC := [⟨[], (.bin .eq (.ap 87 (.cons (.c 0) (.cons (.v 20) (.cons (.v 21) (.cons (.v 22) (.cons (.v 23) .nil)))))) (.c 0))⟩,
  ⟨[], (.bin .eq (.v 157797374496499192) (.bin .sub (.v 15) (.ap 84 (.cons (.c 0) (.cons (.v 20) (.cons (.v 21) (.cons (.v 13) .nil)))))))⟩,
  ⟨[], (.bin .lt (.c 0) (.v 4))⟩,
  ⟨[], (.bin .eq (.ap 88 (.cons (.v 20) (.cons (.v 21) (.cons (.v 22) (.cons (.v 23) (.cons (.ap 1000 (.cons (.c 0) .nil)) (.cons (.ap 1001 (.cons (.c 0) .nil)) (.cons (.ite (.ap 1002 (.cons (.c 0) .nil)) (.c 1) (.c 0)) .nil)))))))) (.c 0))⟩,
  ⟨[], (.bin .eq (.v 9375996378674662) (.ap 83 (.cons (.v 20) (.cons (.v 21) (.cons (.ap 1000 (.cons (.c 0) .nil)) (.cons (.ite (.ap 1002 (.cons (.c 0) .nil)) (.c 1) (.c 0)) (.cons (.v 13) .nil)))))))⟩,
  ⟨[(.bin .lt (.c 0) (.v 157797374496499192))], (.bin .lt (.c 0) (.v 4))⟩,
  ⟨[(.bin .lt (.c 0) (.v 157797374496499192))], (.bin .eq (.ap 88 (.cons (.v 20) (.cons (.v 21) (.cons (.v 22) (.cons (.v 23) (.cons (.ap 1000 (.cons (.c 0) .nil)) (.cons (.ap 1001 (.cons (.c 0) .nil)) (.cons (.ite (.ap 1002 (.cons (.c 0) .nil)) (.c 1) (.c 0)) .nil)))))))) (.c 0))⟩,
  ⟨[], (.ite (.bv 782741206561574860) (.bin .lt (.v 9375996378674662) (.ap 83 (.cons (.v 20) (.cons (.v 21) (.cons (.ap 1000 (.cons (.c 0) .nil)) (.cons (.ite (.ap 1002 (.cons (.c 0) .nil)) (.c 1) (.c 0)) (.cons (.bin .add (.v 13) (.c 1)) .nil))))))) (.un .not (.bin .lt (.v 9375996378674662) (.ap 83 (.cons (.v 20) (.cons (.v 21) (.cons (.ap 1000 (.cons (.c 0) .nil)) (.cons (.ite (.ap 1002 (.cons (.c 0) .nil)) (.c 1) (.c 0)) (.cons (.bin .add (.v 13) (.c 1)) .nil)))))))))⟩]
theorem sR1_ran2 : ran (runP Try.prog 23 (cfgK sRSum sR1Keeps 50 12) 89 (partOf Try.prog 89 4 10) sR1S1) sR1L2 sR1V2 = true := by kernel_rfl
def sR1W2 : List VC := [⟨[], (.bin .eq (.ap 87 (.cons (.c 0) (.cons (.v 20) (.cons (.v 21) (.cons (.v 22) (.cons (.v 23) .nil)))))) (.c 0))⟩, ⟨[], (.bin .lt (.c 0) (.v 4))⟩, ⟨[], (.bin .eq (.ap 88 (.cons (.v 20) (.cons (.v 21) (.cons (.v 22) (.cons (.v 23) (.cons (.ap 1000 (.cons (.c 0) .nil)) (.cons (.ap 1001 (.cons (.c 0) .nil)) (.cons (.ite (.ap 1002 (.cons (.c 0) .nil)) (.c 1) (.c 0)) .nil)))))))) (.c 0))⟩, ⟨[(.bin .lt (.c 0) (.v 157797374496499192))], (.bin .lt (.c 0) (.v 4))⟩, ⟨[(.bin .lt (.c 0) (.v 157797374496499192))], (.bin .eq (.ap 88 (.cons (.v 20) (.cons (.v 21) (.cons (.v 22) (.cons (.v 23) (.cons (.ap 1000 (.cons (.c 0) .nil)) (.cons (.ap 1001 (.cons (.c 0) .nil)) (.cons (.ite (.ap 1002 (.cons (.c 0) .nil)) (.c 1) (.c 0)) .nil)))))))) (.c 0))⟩]
theorem sR1_defs2 : defs sR1V2 [] [] = sR1W2 := by kernel_rfl
theorem sR1_no2 : sR1W2.all VC.isNo = true := by kernel_rfl
theorem sR1_w2 (ρ : Env) : andV ρ sR1W2 = ((True → (decide ((ρ.fn 87 ((0 : Int) :: ((ρ.iv 20) :: ((ρ.iv 21) :: ((ρ.iv 22) :: ((ρ.iv 23) :: [])))))) = (0 : Int))) = true) ∧ (True → (decide ((0 : Int) < (ρ.iv 4))) = true) ∧ (True → (decide ((ρ.fn 88 ((ρ.iv 20) :: ((ρ.iv 21) :: ((ρ.iv 22) :: ((ρ.iv 23) :: ((ρ.fn 1000 ((0 : Int) :: [])) :: ((ρ.fn 1001 ((0 : Int) :: [])) :: ((if (ρ.fb 1002 ((0 : Int) :: [])) = true then (1 : Int) else (0 : Int)) :: [])))))))) = (0 : Int))) = true) ∧ ((decide ((0 : Int) < (ρ.iv 157797374496499192))) = true ∧ True → (decide ((0 : Int) < (ρ.iv 4))) = true) ∧ ((decide ((0 : Int) < (ρ.iv 157797374496499192))) = true ∧ True → (decide ((ρ.fn 88 ((ρ.iv 20) :: ((ρ.iv 21) :: ((ρ.iv 22) :: ((ρ.iv 23) :: ((ρ.fn 1000 ((0 : Int) :: [])) :: ((ρ.fn 1001 ((0 : Int) :: [])) :: ((if (ρ.fb 1002 ((0 : Int) :: [])) = true then (1 : Int) else (0 : Int)) :: [])))))))) = (0 : Int))) = true) ∧ True) := by kernel_rfl
theorem sR1_says2 (ρ : Env) : saysL ρ sR1V2 = (True ∧
  ρ.iv 157797374496499192 = ((ρ.iv 15) - (ρ.fn 84 ((0 : Int) :: ((ρ.iv 20) :: ((ρ.iv 21) :: ((ρ.iv 13) :: [])))))) ∧
  True ∧
  True ∧
  ρ.iv 9375996378674662 = (ρ.fn 83 ((ρ.iv 20) :: ((ρ.iv 21) :: ((ρ.fn 1000 ((0 : Int) :: [])) :: ((if (ρ.fb 1002 ((0 : Int) :: [])) = true then (1 : Int) else (0 : Int)) :: ((ρ.iv 13) :: [])))))) ∧
  True ∧
  True ∧
  ρ.bv 782741206561574860 = (decide ((ρ.iv 9375996378674662) < (ρ.fn 83 ((ρ.iv 20) :: ((ρ.iv 21) :: ((ρ.fn 1000 ((0 : Int) :: [])) :: ((if (ρ.fb 1002 ((0 : Int) :: [])) = true then (1 : Int) else (0 : Int)) :: (((ρ.iv 13) + (1 : Int)) :: [])))))))) ∧
  True) := by kernel_rfl
end Go.Proofs.Ytdfpenjhpemokaa.Sx
/-
  R.Spread: worked out. Written by a program of ours (wip/dev/sx).
-/
namespace Go.Proofs.Ytdfpenjhpemokaa.Sx
def sR2Keeps : List (Nat × List (Nat × List Nat)) := [(49, [(0, [2, 3, 4]), (1, [2, 3, 4, 6]), (2, [4]), (3, [4])]),
  (51, [(0, [0, 1, 2]), (1, [6])]),
  (89, [(0, [1, 2, 3]), (1, [1, 2, 3]), (2, [1, 2, 3, 7]), (3, [1, 2, 3, 7, 39]), (4, [1, 2, 3, 7]), (5, [1, 3, 7, 8]), (6, [1, 3, 7, 8, 9]), (7, [1, 3, 7, 8, 9, 10]), (8, [1, 3, 7, 8, 9, 10, 51]), (9, [1, 3, 7, 8, 9, 10]), (10, [1, 3, 7, 8, 9, 10, 11]), (11, [1, 3, 7, 8, 9, 10, 11, 74]), (12, [1, 3, 7, 8, 9, 10, 11]), (13, [1, 3, 7, 8, 9, 10, 11]), (14, [1, 3, 7, 8, 9, 10]), (15, [6])]),
  (124, [(0, [1, 2, 3]), (1, [1, 2, 3, 7]), (2, [1, 2, 3, 7, 8]), (3, [1, 2, 3, 7, 8, 12]), (4, [1, 2, 3, 7, 8]), (5, [1, 2, 3, 7, 8]), (6, [6])]),
  (155, [(0, [2, 3, 4]), (1, [2, 7]), (2, [6])])]
def sR2Args : List SV := [.agg [.int .i64 ⟨(.v 20), 1, 1000⟩, .int .i64 ⟨(.v 21), 1, 1000⟩, .int .i64 ⟨(.v 22), 0, 1000⟩, .int .i64 ⟨(.v 23), 1, 10⟩], .osl 0 [.int .i64 (-9223372036854775808) 9223372036854775807, .int .i64 (-9223372036854775808) 9223372036854775807, .bool] ⟨(.v 4), 2, 2⟩, .int .i64 ⟨(.v 24), (-9223372036854775808), 9223372036854775807⟩]
def sR2S1 : St := ⟨[(7, ⟨[], .int .i64 ⟨(.v 13), (-1000), 1000⟩⟩), (3, ⟨[], .ptr 0 0⟩), (1, ⟨[], .osl 0 [.int .i64 (-9223372036854775808) 9223372036854775807, .int .i64 (-9223372036854775808) 9223372036854775807, .bool] ⟨(.v 4), 2, 2⟩⟩), (2, ⟨[], .int .i64 ⟨(.v 15), (-4000), 4000⟩⟩)], [(0, ⟨[], ⟨[.int .i64 ⟨(.v 20), 1, 1000⟩, .int .i64 ⟨(.v 21), 1, 1000⟩, .int .i64 ⟨(.v 22), 0, 1000⟩, .int .i64 ⟨(.v 23), 1, 10⟩], 53, .full⟩⟩)], 1, 84⟩
def sR2L0 : List LS := [⟨[], .normal, sR2S1, ⟨[(13, (.v 20)), (15, (.v 764873220800522583))], []⟩⟩]
def sR2V0 : List VC := [⟨[], (.bin .eq (.ap 87 (.cons (.c 0) (.cons (.v 20) (.cons (.v 21) (.cons (.v 22) (.cons (.v 23) .nil)))))) (.c 0))⟩,
  ⟨[], (.bin .eq (.v 470975408974876763) (.ap 84 (.cons (.c 0) (.cons (.v 20) (.cons (.v 21) (.cons (.bin .sub (.c 0) (.v 20)) .nil))))))⟩,
  ⟨[], (.bin .eq (.v 764873220800522583) (.bin .min (.bin .max (.v 24) (.v 470975408974876763)) (.ap 84 (.cons (.c 0) (.cons (.v 20) (.cons (.v 21) (.cons (.v 20) .nil)))))))⟩]
theorem sR2_ran0 : ran (runP Try.prog 23 (cfgK sRSum sR2Keeps 50 12) 89 (partOf Try.prog 89 0 3) (start Try.prog 89 sR2Args [] 0)) sR2L0 sR2V0 = true := by kernel_rfl
def sR2W0 : List VC := [⟨[], (.bin .eq (.ap 87 (.cons (.c 0) (.cons (.v 20) (.cons (.v 21) (.cons (.v 22) (.cons (.v 23) .nil)))))) (.c 0))⟩]
theorem sR2_defs0 : defs sR2V0 [] [] = sR2W0 := by kernel_rfl
theorem sR2_no0 : sR2W0.all VC.isNo = true := by kernel_rfl
theorem sR2_w0 (ρ : Env) : andV ρ sR2W0 = ((True → (decide ((ρ.fn 87 ((0 : Int) :: ((ρ.iv 20) :: ((ρ.iv 21) :: ((ρ.iv 22) :: ((ρ.iv 23) :: [])))))) = (0 : Int))) = true) ∧ True) := by kernel_rfl
theorem sR2_says0 (ρ : Env) : saysL ρ sR2V0 = (True ∧
  ρ.iv 470975408974876763 = (ρ.fn 84 ((0 : Int) :: ((ρ.iv 20) :: ((ρ.iv 21) :: (((0 : Int) - (ρ.iv 20)) :: []))))) ∧
  ρ.iv 764873220800522583 = (min (max (ρ.iv 24) (ρ.iv 470975408974876763)) (ρ.fn 84 ((0 : Int) :: ((ρ.iv 20) :: ((ρ.iv 21) :: ((ρ.iv 20) :: [])))))) ∧
  True) := by kernel_rfl
def sR2L1 : List LS := [⟨[(.bin .and (.bin .lt (.bin .sub (.c 0) (.v 20)) (.v 13)) (.bin .lt (.v 15) (.ap 84 (.cons (.c 0) (.cons (.v 20) (.cons (.v 21) (.cons (.v 13) .nil)))))))], .normal, sR2S1, ⟨[(13, (.bin .sub (.v 13) (.c 1)))], []⟩⟩,
  ⟨[(.un .not (.bin .and (.bin .lt (.bin .sub (.c 0) (.v 20)) (.v 13)) (.bin .lt (.v 15) (.ap 84 (.cons (.c 0) (.cons (.v 20) (.cons (.v 21) (.cons (.v 13) .nil))))))))], (.exit 0), sR2S1, ⟨[], []⟩⟩]
def sR2V1 : List VC := [⟨[(.bin .lt (.bin .sub (.c 0) (.v 20)) (.v 13))], (.bin .eq (.ap 87 (.cons (.c 0) (.cons (.v 20) (.cons (.v 21) (.cons (.v 22) (.cons (.v 23) .nil)))))) (.c 0))⟩]
theorem sR2_ran1 : ran (runP Try.prog 23 (cfgK sRSum sR2Keeps 50 12) 89 (loopOf Try.prog 89 3) sR2S1) sR2L1 sR2V1 = true := by kernel_rfl
def sR2W1 : List VC := [⟨[(.bin .lt (.bin .sub (.c 0) (.v 20)) (.v 13))], (.bin .eq (.ap 87 (.cons (.c 0) (.cons (.v 20) (.cons (.v 21) (.cons (.v 22) (.cons (.v 23) .nil)))))) (.c 0))⟩]
theorem sR2_defs1 : defs sR2V1 [] [] = sR2W1 := by kernel_rfl
theorem sR2_no1 : sR2W1.all VC.isNo = true := by kernel_rfl
theorem sR2_w1 (ρ : Env) : andV ρ sR2W1 = (((decide (((0 : Int) - (ρ.iv 20)) < (ρ.iv 13))) = true ∧ True → (decide ((ρ.fn 87 ((0 : Int) :: ((ρ.iv 20) :: ((ρ.iv 21) :: ((ρ.iv 22) :: ((ρ.iv 23) :: [])))))) = (0 : Int))) = true) ∧ True) := by kernel_rfl
theorem sR2_1_pc0 (ρ : Env) : andB ρ [(.bin .and (.bin .lt (.bin .sub (.c 0) (.v 20)) (.v 13)) (.bin .lt (.v 15) (.ap 84 (.cons (.c 0) (.cons (.v 20) (.cons (.v 21) (.cons (.v 13) .nil)))))))] = (((decide (((0 : Int) - (ρ.iv 20)) < (ρ.iv 13))) && (decide ((ρ.iv 15) < (ρ.fn 84 ((0 : Int) :: ((ρ.iv 20) :: ((ρ.iv 21) :: ((ρ.iv 13) :: [])))))))) = true ∧ True) := by kernel_rfl
theorem sR2_1_pc1 (ρ : Env) : andB ρ [(.un .not (.bin .and (.bin .lt (.bin .sub (.c 0) (.v 20)) (.v 13)) (.bin .lt (.v 15) (.ap 84 (.cons (.c 0) (.cons (.v 20) (.cons (.v 21) (.cons (.v 13) .nil))))))))] = ((!((decide (((0 : Int) - (ρ.iv 20)) < (ρ.iv 13))) && (decide ((ρ.iv 15) < (ρ.fn 84 ((0 : Int) :: ((ρ.iv 20) :: ((ρ.iv 21) :: ((ρ.iv 13) :: []))))))))) = true ∧ True) := by kernel_rfl
def sR2L2 : List LS := [⟨[], .ret, ⟨[(6, ⟨[], .sl 4 0 2 none⟩)], [(4, ⟨[], ⟨[.int .i64 ⟨(.v 900), (-1000), 1001⟩, .int .i64 ⟨(.v 901), (-1000), 1001⟩], 3, (.grow 1)⟩⟩)], 5, 84⟩, ⟨[(900, (.ite (.bin .and (.bin .lt (.c 0) (.v 157797374496499192)) (.bv 782741206561574860)) (.bin .add (.v 9375996378674662) (.c 1)) (.v 9375996378674662))), (901, (.v 1293947935901521602))], []⟩⟩]
def sR2V2 : List VC := [⟨[], (.bin .eq (.ap 87 (.cons (.c 0) (.cons (.v 20) (.cons (.v 21) (.cons (.v 22) (.cons (.v 23) .nil)))))) (.c 0))⟩,
  ⟨[], (.bin .eq (.v 157797374496499192) (.bin .sub (.v 15) (.ap 84 (.cons (.c 0) (.cons (.v 20) (.cons (.v 21) (.cons (.v 13) .nil)))))))⟩,
  ⟨[], (.bin .lt (.c 0) (.v 4))⟩,
  ⟨[], (.bin .eq (.ap 88 (.cons (.v 20) (.cons (.v 21) (.cons (.v 22) (.cons (.v 23) (.cons (.ap 1000 (.cons (.c 0) .nil)) (.cons (.ap 1001 (.cons (.c 0) .nil)) (.cons (.ite (.ap 1002 (.cons (.c 0) .nil)) (.c 1) (.c 0)) .nil)))))))) (.c 0))⟩,
  ⟨[], (.bin .eq (.v 9375996378674662) (.ap 83 (.cons (.v 20) (.cons (.v 21) (.cons (.ap 1000 (.cons (.c 0) .nil)) (.cons (.ite (.ap 1002 (.cons (.c 0) .nil)) (.c 1) (.c 0)) (.cons (.v 13) .nil)))))))⟩,
  ⟨[(.bin .lt (.c 0) (.v 157797374496499192))], (.bin .lt (.c 0) (.v 4))⟩,
  ⟨[(.bin .lt (.c 0) (.v 157797374496499192))], (.bin .eq (.ap 88 (.cons (.v 20) (.cons (.v 21) (.cons (.v 22) (.cons (.v 23) (.cons (.ap 1000 (.cons (.c 0) .nil)) (.cons (.ap 1001 (.cons (.c 0) .nil)) (.cons (.ite (.ap 1002 (.cons (.c 0) .nil)) (.c 1) (.c 0)) .nil)))))))) (.c 0))⟩,
  ⟨[], (.ite (.bv 782741206561574860) (.bin .lt (.v 9375996378674662) (.ap 83 (.cons (.v 20) (.cons (.v 21) (.cons (.ap 1000 (.cons (.c 0) .nil)) (.cons (.ite (.ap 1002 (.cons (.c 0) .nil)) (.c 1) (.c 0)) (.cons (.bin .add (.v 13) (.c 1)) .nil))))))) (.un .not (.bin .lt (.v 9375996378674662) (.ap 83 (.cons (.v 20) (.cons (.v 21) (.cons (.ap 1000 (.cons (.c 0) .nil)) (.cons (.ite (.ap 1002 (.cons (.c 0) .nil)) (.c 1) (.c 0)) (.cons (.bin .add (.v 13) (.c 1)) .nil)))))))))⟩,
  ⟨[], (.bin .lt (.c 1) (.v 4))⟩,
  ⟨[], (.bin .eq (.ap 88 (.cons (.v 20) (.cons (.v 21) (.cons (.v 22) (.cons (.v 23) (.cons (.ap 1000 (.cons (.c 1) .nil)) (.cons (.ap 1001 (.cons (.c 1) .nil)) (.cons (.ite (.ap 1002 (.cons (.c 1) .nil)) (.c 1) (.c 0)) .nil)))))))) (.c 0))⟩,
  ⟨[], (.bin .eq (.v 171910849147666243) (.ap 83 (.cons (.v 20) (.cons (.v 21) (.cons (.ap 1000 (.cons (.c 1) .nil)) (.cons (.ite (.ap 1002 (.cons (.c 1) .nil)) (.c 1) (.c 0)) (.cons (.v 13) .nil)))))))⟩,
  ⟨[(.bin .lt (.c 0) (.ite (.bin .and (.bin .lt (.c 0) (.v 157797374496499192)) (.bv 782741206561574860)) (.bin .sub (.v 157797374496499192) (.c 1)) (.v 157797374496499192)))], (.bin .lt (.c 1) (.v 4))⟩,
  ⟨[(.bin .lt (.c 0) (.ite (.bin .and (.bin .lt (.c 0) (.v 157797374496499192)) (.bv 782741206561574860)) (.bin .sub (.v 157797374496499192) (.c 1)) (.v 157797374496499192)))], (.bin .eq (.ap 88 (.cons (.v 20) (.cons (.v 21) (.cons (.v 22) (.cons (.v 23) (.cons (.ap 1000 (.cons (.c 1) .nil)) (.cons (.ap 1001 (.cons (.c 1) .nil)) (.cons (.ite (.ap 1002 (.cons (.c 1) .nil)) (.c 1) (.c 0)) .nil)))))))) (.c 0))⟩,
  ⟨[], (.ite (.bv 1198227363184215546) (.bin .lt (.v 171910849147666243) (.ap 83 (.cons (.v 20) (.cons (.v 21) (.cons (.ap 1000 (.cons (.c 1) .nil)) (.cons (.ite (.ap 1002 (.cons (.c 1) .nil)) (.c 1) (.c 0)) (.cons (.bin .add (.v 13) (.c 1)) .nil))))))) (.un .not (.bin .lt (.v 171910849147666243) (.ap 83 (.cons (.v 20) (.cons (.v 21) (.cons (.ap 1000 (.cons (.c 1) .nil)) (.cons (.ite (.ap 1002 (.cons (.c 1) .nil)) (.c 1) (.c 0)) (.cons (.bin .add (.v 13) (.c 1)) .nil)))))))))⟩,
  ⟨[], (.bin .eq (.v 265348424056978681) (.bin .sub (.ite (.bin .and (.bin .lt (.c 0) (.v 157797374496499192)) (.bv 782741206561574860)) (.bin .sub (.v 157797374496499192) (.c 1)) (.v 157797374496499192)) (.c 1)))⟩,
  ⟨[], (.bin .eq (.v 1265140037774112887) (.ite (.bin .and (.bin .lt (.c 0) (.ite (.bin .and (.bin .lt (.c 0) (.v 157797374496499192)) (.bv 782741206561574860)) (.bin .sub (.v 157797374496499192) (.c 1)) (.v 157797374496499192))) (.bv 1198227363184215546)) (.v 265348424056978681) (.ite (.bin .and (.bin .lt (.c 0) (.v 157797374496499192)) (.bv 782741206561574860)) (.bin .sub (.v 157797374496499192) (.c 1)) (.v 157797374496499192))))⟩,
  ⟨[], (.bin .eq (.v 1293947935901521602) (.ite (.bin .and (.bin .lt (.c 0) (.ite (.bin .and (.bin .lt (.c 0) (.v 157797374496499192)) (.bv 782741206561574860)) (.bin .sub (.v 157797374496499192) (.c 1)) (.v 157797374496499192))) (.bv 1198227363184215546)) (.bin .add (.v 171910849147666243) (.c 1)) (.v 171910849147666243)))⟩]
theorem sR2_ran2 : ran (runP Try.prog 23 (cfgK sRSum sR2Keeps 50 12) 89 (partOf Try.prog 89 4 10) sR2S1) sR2L2 sR2V2 = true := by kernel_rfl
def sR2W2 : List VC := [⟨[], (.bin .eq (.ap 87 (.cons (.c 0) (.cons (.v 20) (.cons (.v 21) (.cons (.v 22) (.cons (.v 23) .nil)))))) (.c 0))⟩, ⟨[], (.bin .lt (.c 0) (.v 4))⟩, ⟨[], (.bin .eq (.ap 88 (.cons (.v 20) (.cons (.v 21) (.cons (.v 22) (.cons (.v 23) (.cons (.ap 1000 (.cons (.c 0) .nil)) (.cons (.ap 1001 (.cons (.c 0) .nil)) (.cons (.ite (.ap 1002 (.cons (.c 0) .nil)) (.c 1) (.c 0)) .nil)))))))) (.c 0))⟩, ⟨[(.bin .lt (.c 0) (.v 157797374496499192))], (.bin .lt (.c 0) (.v 4))⟩, ⟨[(.bin .lt (.c 0) (.v 157797374496499192))], (.bin .eq (.ap 88 (.cons (.v 20) (.cons (.v 21) (.cons (.v 22) (.cons (.v 23) (.cons (.ap 1000 (.cons (.c 0) .nil)) (.cons (.ap 1001 (.cons (.c 0) .nil)) (.cons (.ite (.ap 1002 (.cons (.c 0) .nil)) (.c 1) (.c 0)) .nil)))))))) (.c 0))⟩, ⟨[], (.bin .lt (.c 1) (.v 4))⟩, ⟨[], (.bin .eq (.ap 88 (.cons (.v 20) (.cons (.v 21) (.cons (.v 22) (.cons (.v 23) (.cons (.ap 1000 (.cons (.c 1) .nil)) (.cons (.ap 1001 (.cons (.c 1) .nil)) (.cons (.ite (.ap 1002 (.cons (.c 1) .nil)) (.c 1) (.c 0)) .nil)))))))) (.c 0))⟩, ⟨[(.bin .lt (.c 0) (.ite (.bin .and (.bin .lt (.c 0) (.v 157797374496499192)) (.bv 782741206561574860)) (.bin .sub (.v 157797374496499192) (.c 1)) (.v 157797374496499192)))], (.bin .lt (.c 1) (.v 4))⟩, ⟨[(.bin .lt (.c 0) (.ite (.bin .and (.bin .lt (.c 0) (.v 157797374496499192)) (.bv 782741206561574860)) (.bin .sub (.v 157797374496499192) (.c 1)) (.v 157797374496499192)))], (.bin .eq (.ap 88 (.cons (.v 20) (.cons (.v 21) (.cons (.v 22) (.cons (.v 23) (.cons (.ap 1000 (.cons (.c 1) .nil)) (.cons (.ap 1001 (.cons (.c 1) .nil)) (.cons (.ite (.ap 1002 (.cons (.c 1) .nil)) (.c 1) (.c 0)) .nil)))))))) (.c 0))⟩]
theorem sR2_defs2 : defs sR2V2 [] [] = sR2W2 := by kernel_rfl
theorem sR2_no2 : sR2W2.all VC.isNo = true := by kernel_rfl
theorem sR2_w2 (ρ : Env) : andV ρ sR2W2 = ((True → (decide ((ρ.fn 87 ((0 : Int) :: ((ρ.iv 20) :: ((ρ.iv 21) :: ((ρ.iv 22) :: ((ρ.iv 23) :: [])))))) = (0 : Int))) = true) ∧ (True → (decide ((0 : Int) < (ρ.iv 4))) = true) ∧ (True → (decide ((ρ.fn 88 ((ρ.iv 20) :: ((ρ.iv 21) :: ((ρ.iv 22) :: ((ρ.iv 23) :: ((ρ.fn 1000 ((0 : Int) :: [])) :: ((ρ.fn 1001 ((0 : Int) :: [])) :: ((if (ρ.fb 1002 ((0 : Int) :: [])) = true then (1 : Int) else (0 : Int)) :: [])))))))) = (0 : Int))) = true) ∧ ((decide ((0 : Int) < (ρ.iv 157797374496499192))) = true ∧ True → (decide ((0 : Int) < (ρ.iv 4))) = true) ∧ ((decide ((0 : Int) < (ρ.iv 157797374496499192))) = true ∧ True → (decide ((ρ.fn 88 ((ρ.iv 20) :: ((ρ.iv 21) :: ((ρ.iv 22) :: ((ρ.iv 23) :: ((ρ.fn 1000 ((0 : Int) :: [])) :: ((ρ.fn 1001 ((0 : Int) :: [])) :: ((if (ρ.fb 1002 ((0 : Int) :: [])) = true then (1 : Int) else (0 : Int)) :: [])))))))) = (0 : Int))) = true) ∧ (True → (decide ((1 : Int) < (ρ.iv 4))) = true) ∧ (True → (decide ((ρ.fn 88 ((ρ.iv 20) :: ((ρ.iv 21) :: ((ρ.iv 22) :: ((ρ.iv 23) :: ((ρ.fn 1000 ((1 : Int) :: [])) :: ((ρ.fn 1001 ((1 : Int) :: [])) :: ((if (ρ.fb 1002 ((1 : Int) :: [])) = true then (1 : Int) else (0 : Int)) :: [])))))))) = (0 : Int))) = true) ∧ ((decide ((0 : Int) < (if ((decide ((0 : Int) < (ρ.iv 157797374496499192))) && (ρ.bv 782741206561574860)) = true then ((ρ.iv 157797374496499192) - (1 : Int)) else (ρ.iv 157797374496499192)))) = true ∧ True → (decide ((1 : Int) < (ρ.iv 4))) = true) ∧ ((decide ((0 : Int) < (if ((decide ((0 : Int) < (ρ.iv 157797374496499192))) && (ρ.bv 782741206561574860)) = true then ((ρ.iv 157797374496499192) - (1 : Int)) else (ρ.iv 157797374496499192)))) = true ∧ True → (decide ((ρ.fn 88 ((ρ.iv 20) :: ((ρ.iv 21) :: ((ρ.iv 22) :: ((ρ.iv 23) :: ((ρ.fn 1000 ((1 : Int) :: [])) :: ((ρ.fn 1001 ((1 : Int) :: [])) :: ((if (ρ.fb 1002 ((1 : Int) :: [])) = true then (1 : Int) else (0 : Int)) :: [])))))))) = (0 : Int))) = true) ∧ True) := by kernel_rfl
theorem sR2_says2 (ρ : Env) : saysL ρ sR2V2 = (True ∧
  ρ.iv 157797374496499192 = ((ρ.iv 15) - (ρ.fn 84 ((0 : Int) :: ((ρ.iv 20) :: ((ρ.iv 21) :: ((ρ.iv 13) :: [])))))) ∧
  True ∧
  True ∧
  ρ.iv 9375996378674662 = (ρ.fn 83 ((ρ.iv 20) :: ((ρ.iv 21) :: ((ρ.fn 1000 ((0 : Int) :: [])) :: ((if (ρ.fb 1002 ((0 : Int) :: [])) = true then (1 : Int) else (0 : Int)) :: ((ρ.iv 13) :: [])))))) ∧
  True ∧
  True ∧
  ρ.bv 782741206561574860 = (decide ((ρ.iv 9375996378674662) < (ρ.fn 83 ((ρ.iv 20) :: ((ρ.iv 21) :: ((ρ.fn 1000 ((0 : Int) :: [])) :: ((if (ρ.fb 1002 ((0 : Int) :: [])) = true then (1 : Int) else (0 : Int)) :: (((ρ.iv 13) + (1 : Int)) :: [])))))))) ∧
  True ∧
  True ∧
  ρ.iv 171910849147666243 = (ρ.fn 83 ((ρ.iv 20) :: ((ρ.iv 21) :: ((ρ.fn 1000 ((1 : Int) :: [])) :: ((if (ρ.fb 1002 ((1 : Int) :: [])) = true then (1 : Int) else (0 : Int)) :: ((ρ.iv 13) :: [])))))) ∧
  True ∧
  True ∧
  ρ.bv 1198227363184215546 = (decide ((ρ.iv 171910849147666243) < (ρ.fn 83 ((ρ.iv 20) :: ((ρ.iv 21) :: ((ρ.fn 1000 ((1 : Int) :: [])) :: ((if (ρ.fb 1002 ((1 : Int) :: [])) = true then (1 : Int) else (0 : Int)) :: (((ρ.iv 13) + (1 : Int)) :: [])))))))) ∧
  ρ.iv 265348424056978681 = ((if ((decide ((0 : Int) < (ρ.iv 157797374496499192))) && (ρ.bv 782741206561574860)) = true then ((ρ.iv 157797374496499192) - (1 : Int)) else (ρ.iv 157797374496499192)) - (1 : Int)) ∧
  ρ.iv 1265140037774112887 = (if ((decide ((0 : Int) < (if ((decide ((0 : Int) < (ρ.iv 157797374496499192))) && (ρ.bv 782741206561574860)) = true then ((ρ.iv 157797374496499192) - (1 : Int)) else (ρ.iv 157797374496499192)))) && (ρ.bv 1198227363184215546)) = true then (ρ.iv 265348424056978681) else (if ((decide ((0 : Int) < (ρ.iv 157797374496499192))) && (ρ.bv 782741206561574860)) = true then ((ρ.iv 157797374496499192) - (1 : Int)) else (ρ.iv 157797374496499192))) ∧
  ρ.iv 1293947935901521602 = (if ((decide ((0 : Int) < (if ((decide ((0 : Int) < (ρ.iv 157797374496499192))) && (ρ.bv 782741206561574860)) = true then ((ρ.iv 157797374496499192) - (1 : Int)) else (ρ.iv 157797374496499192)))) && (ρ.bv 1198227363184215546)) = true then ((ρ.iv 171910849147666243) + (1 : Int)) else (ρ.iv 171910849147666243)) ∧
  True) := by kernel_rfl
end Go.Proofs.Ytdfpenjhpemokaa.Sx
/-
  R.Spread: worked out. Written by a program of ours (wip/dev/sx).
-/
namespace Go.Proofs.Ytdfpenjhpemokaa.Sx
def sR3Keeps : List (Nat × List (Nat × List Nat)) := [(49, [(0, [2, 3, 4]), (1, [2, 3, 4, 6]), (2, [4]), (3, [4])]),
  (51, [(0, [0, 1, 2]), (1, [6])]),
  (89, [(0, [1, 2, 3]), (1, [1, 2, 3]), (2, [1, 2, 3, 7]), (3, [1, 2, 3, 7, 39]), (4, [1, 2, 3, 7]), (5, [1, 3, 7, 8]), (6, [1, 3, 7, 8, 9]), (7, [1, 3, 7, 8, 9, 10]), (8, [1, 3, 7, 8, 9, 10, 51]), (9, [1, 3, 7, 8, 9, 10]), (10, [1, 3, 7, 8, 9, 10, 11]), (11, [1, 3, 7, 8, 9, 10, 11, 74]), (12, [1, 3, 7, 8, 9, 10, 11]), (13, [1, 3, 7, 8, 9, 10, 11]), (14, [1, 3, 7, 8, 9, 10]), (15, [6])]),
  (124, [(0, [1, 2, 3]), (1, [1, 2, 3, 7]), (2, [1, 2, 3, 7, 8]), (3, [1, 2, 3, 7, 8, 12]), (4, [1, 2, 3, 7, 8]), (5, [1, 2, 3, 7, 8]), (6, [6])]),
  (155, [(0, [2, 3, 4]), (1, [2, 7]), (2, [6])])]
def sR3Args : List SV := [.agg [.int .i64 ⟨(.v 20), 1, 1000⟩, .int .i64 ⟨(.v 21), 1, 1000⟩, .int .i64 ⟨(.v 22), 0, 1000⟩, .int .i64 ⟨(.v 23), 1, 10⟩], .osl 0 [.int .i64 (-9223372036854775808) 9223372036854775807, .int .i64 (-9223372036854775808) 9223372036854775807, .bool] ⟨(.v 4), 3, 3⟩, .int .i64 ⟨(.v 24), (-9223372036854775808), 9223372036854775807⟩]
def sR3S1 : St := ⟨[(7, ⟨[], .int .i64 ⟨(.v 13), (-1000), 1000⟩⟩), (3, ⟨[], .ptr 0 0⟩), (1, ⟨[], .osl 0 [.int .i64 (-9223372036854775808) 9223372036854775807, .int .i64 (-9223372036854775808) 9223372036854775807, .bool] ⟨(.v 4), 3, 3⟩⟩), (2, ⟨[], .int .i64 ⟨(.v 15), (-4000), 4000⟩⟩)], [(0, ⟨[], ⟨[.int .i64 ⟨(.v 20), 1, 1000⟩, .int .i64 ⟨(.v 21), 1, 1000⟩, .int .i64 ⟨(.v 22), 0, 1000⟩, .int .i64 ⟨(.v 23), 1, 10⟩], 53, .full⟩⟩)], 1, 84⟩
def sR3L0 : List LS := [⟨[], .normal, sR3S1, ⟨[(13, (.v 20)), (15, (.v 764873220800522583))], []⟩⟩]
def sR3V0 : List VC := [⟨[], (.bin .eq (.ap 87 (.cons (.c 0) (.cons (.v 20) (.cons (.v 21) (.cons (.v 22) (.cons (.v 23) .nil)))))) (.c 0))⟩,
  ⟨[], (.bin .eq (.v 470975408974876763) (.ap 84 (.cons (.c 0) (.cons (.v 20) (.cons (.v 21) (.cons (.bin .sub (.c 0) (.v 20)) .nil))))))⟩,
  ⟨[], (.bin .eq (.v 764873220800522583) (.bin .min (.bin .max (.v 24) (.v 470975408974876763)) (.ap 84 (.cons (.c 0) (.cons (.v 20) (.cons (.v 21) (.cons (.v 20) .nil)))))))⟩]
theorem sR3_ran0 : ran (runP Try.prog 23 (cfgK sRSum sR3Keeps 50 12) 89 (partOf Try.prog 89 0 3) (start Try.prog 89 sR3Args [] 0)) sR3L0 sR3V0 = true := by kernel_rfl
def sR3W0 : List VC := [⟨[], (.bin .eq (.ap 87 (.cons (.c 0) (.cons (.v 20) (.cons (.v 21) (.cons (.v 22) (.cons (.v 23) .nil)))))) (.c 0))⟩]
theorem sR3_defs0 : defs sR3V0 [] [] = sR3W0 := by kernel_rfl
theorem sR3_no0 : sR3W0.all VC.isNo = true := by kernel_rfl
theorem sR3_w0 (ρ : Env) : andV ρ sR3W0 = ((True → (decide ((ρ.fn 87 ((0 : Int) :: ((ρ.iv 20) :: ((ρ.iv 21) :: ((ρ.iv 22) :: ((ρ.iv 23) :: [])))))) = (0 : Int))) = true) ∧ True) := by kernel_rfl
theorem sR3_says0 (ρ : Env) : saysL ρ sR3V0 = (True ∧
  ρ.iv 470975408974876763 = (ρ.fn 84 ((0 : Int) :: ((ρ.iv 20) :: ((ρ.iv 21) :: (((0 : Int) - (ρ.iv 20)) :: []))))) ∧
  ρ.iv 764873220800522583 = (min (max (ρ.iv 24) (ρ.iv 470975408974876763)) (ρ.fn 84 ((0 : Int) :: ((ρ.iv 20) :: ((ρ.iv 21) :: ((ρ.iv 20) :: [])))))) ∧
  True) := by kernel_rfl
def sR3L1 : List LS := [⟨[(.bin .and (.bin .lt (.bin .sub (.c 0) (.v 20)) (.v 13)) (.bin .lt (.v 15) (.ap 84 (.cons (.c 0) (.cons (.v 20) (.cons (.v 21) (.cons (.v 13) .nil)))))))], .normal, sR3S1, ⟨[(13, (.bin .sub (.v 13) (.c 1)))], []⟩⟩,
  ⟨[(.un .not (.bin .and (.bin .lt (.bin .sub (.c 0) (.v 20)) (.v 13)) (.bin .lt (.v 15) (.ap 84 (.cons (.c 0) (.cons (.v 20) (.cons (.v 21) (.cons (.v 13) .nil))))))))], (.exit 0), sR3S1, ⟨[], []⟩⟩]
def sR3V1 : List VC := [⟨[(.bin .lt (.bin .sub (.c 0) (.v 20)) (.v 13))], (.bin .eq (.ap 87 (.cons (.c 0) (.cons (.v 20) (.cons (.v 21) (.cons (.v 22) (.cons (.v 23) .nil)))))) (.c 0))⟩]
theorem sR3_ran1 : ran (runP Try.prog 23 (cfgK sRSum sR3Keeps 50 12) 89 (loopOf Try.prog 89 3) sR3S1) sR3L1 sR3V1 = true := by kernel_rfl
def sR3W1 : List VC := [⟨[(.bin .lt (.bin .sub (.c 0) (.v 20)) (.v 13))], (.bin .eq (.ap 87 (.cons (.c 0) (.cons (.v 20) (.cons (.v 21) (.cons (.v 22) (.cons (.v 23) .nil)))))) (.c 0))⟩]
theorem sR3_defs1 : defs sR3V1 [] [] = sR3W1 := by kernel_rfl
theorem sR3_no1 : sR3W1.all VC.isNo = true := by kernel_rfl
theorem sR3_w1 (ρ : Env) : andV ρ sR3W1 = (((decide (((0 : Int) - (ρ.iv 20)) < (ρ.iv 13))) = true ∧ True → (decide ((ρ.fn 87 ((0 : Int) :: ((ρ.iv 20) :: ((ρ.iv 21) :: ((ρ.iv 22) :: ((ρ.iv 23) :: [])))))) = (0 : Int))) = true) ∧ True) := by kernel_rfl
theorem sR3_1_pc0 (ρ : Env) : andB ρ [(.bin .and (.bin .lt (.bin .sub (.c 0) (.v 20)) (.v 13)) (.bin .lt (.v 15) (.ap 84 (.cons (.c 0) (.cons (.v 20) (.cons (.v 21) (.cons (.v 13) .nil)))))))] = (((decide (((0 : Int) - (ρ.iv 20)) < (ρ.iv 13))) && (decide ((ρ.iv 15) < (ρ.fn 84 ((0 : Int) :: ((ρ.iv 20) :: ((ρ.iv 21) :: ((ρ.iv 13) :: [])))))))) = true ∧ True) := by kernel_rfl
theorem sR3_1_pc1 (ρ : Env) : andB ρ [(.un .not (.bin .and (.bin .lt (.bin .sub (.c 0) (.v 20)) (.v 13)) (.bin .lt (.v 15) (.ap 84 (.cons (.c 0) (.cons (.v 20) (.cons (.v 21) (.cons (.v 13) .nil))))))))] = ((!((decide (((0 : Int) - (ρ.iv 20)) < (ρ.iv 13))) && (decide ((ρ.iv 15) < (ρ.fn 84 ((0 : Int) :: ((ρ.iv 20) :: ((ρ.iv 21) :: ((ρ.iv 13) :: []))))))))) = true ∧ True) := by kernel_rfl
def sR3L2 : List LS := [⟨[], .ret, ⟨[(6, ⟨[], .sl 6 0 3 none⟩)], [(6, ⟨[], ⟨[.int .i64 ⟨(.v 900), (-1000), 1001⟩, .int .i64 ⟨(.v 901), (-1000), 1001⟩, .int .i64 ⟨(.v 902), (-1000), 1001⟩], 3, (.grow 1)⟩⟩)], 7, 84⟩, ⟨[(900, (.ite (.bin .and (.bin .lt (.c 0) (.v 157797374496499192)) (.bv 782741206561574860)) (.bin .add (.v 9375996378674662) (.c 1)) (.v 9375996378674662))), (901, (.v 1293947935901521602)), (902, (.ite (.bin .and (.bin .lt (.c 0) (.v 1265140037774112887)) (.bv 1613713519806856232)) (.bin .add (.v 334445701916657824) (.c 1)) (.v 334445701916657824)))], []⟩⟩]
def sR3V2 : List VC := [⟨[], (.bin .eq (.ap 87 (.cons (.c 0) (.cons (.v 20) (.cons (.v 21) (.cons (.v 22) (.cons (.v 23) .nil)))))) (.c 0))⟩,
  ⟨[], (.bin .eq (.v 157797374496499192) (.bin .sub (.v 15) (.ap 84 (.cons (.c 0) (.cons (.v 20) (.cons (.v 21) (.cons (.v 13) .nil)))))))⟩,
  ⟨[], (.bin .lt (.c 0) (.v 4))⟩,
  ⟨[], (.bin .eq (.ap 88 (.cons (.v 20) (.cons (.v 21) (.cons (.v 22) (.cons (.v 23) (.cons (.ap 1000 (.cons (.c 0) .nil)) (.cons (.ap 1001 (.cons (.c 0) .nil)) (.cons (.ite (.ap 1002 (.cons (.c 0) .nil)) (.c 1) (.c 0)) .nil)))))))) (.c 0))⟩,
  ⟨[], (.bin .eq (.v 9375996378674662) (.ap 83 (.cons (.v 20) (.cons (.v 21) (.cons (.ap 1000 (.cons (.c 0) .nil)) (.cons (.ite (.ap 1002 (.cons (.c 0) .nil)) (.c 1) (.c 0)) (.cons (.v 13) .nil)))))))⟩,
  ⟨[(.bin .lt (.c 0) (.v 157797374496499192))], (.bin .lt (.c 0) (.v 4))⟩,
  ⟨[(.bin .lt (.c 0) (.v 157797374496499192))], (.bin .eq (.ap 88 (.cons (.v 20) (.cons (.v 21) (.cons (.v 22) (.cons (.v 23) (.cons (.ap 1000 (.cons (.c 0) .nil)) (.cons (.ap 1001 (.cons (.c 0) .nil)) (.cons (.ite (.ap 1002 (.cons (.c 0) .nil)) (.c 1) (.c 0)) .nil)))))))) (.c 0))⟩,
  ⟨[], (.ite (.bv 782741206561574860) (.bin .lt (.v 9375996378674662) (.ap 83 (.cons (.v 20) (.cons (.v 21) (.cons (.ap 1000 (.cons (.c 0) .nil)) (.cons (.ite (.ap 1002 (.cons (.c 0) .nil)) (.c 1) (.c 0)) (.cons (.bin .add (.v 13) (.c 1)) .nil))))))) (.un .not (.bin .lt (.v 9375996378674662) (.ap 83 (.cons (.v 20) (.cons (.v 21) (.cons (.ap 1000 (.cons (.c 0) .nil)) (.cons (.ite (.ap 1002 (.cons (.c 0) .nil)) (.c 1) (.c 0)) (.cons (.bin .add (.v 13) (.c 1)) .nil)))))))))⟩,
  ⟨[], (.bin .lt (.c 1) (.v 4))⟩,
  ⟨[], (.bin .eq (.ap 88 (.cons (.v 20) (.cons (.v 21) (.cons (.v 22) (.cons (.v 23) (.cons (.ap 1000 (.cons (.c 1) .nil)) (.cons (.ap 1001 (.cons (.c 1) .nil)) (.cons (.ite (.ap 1002 (.cons (.c 1) .nil)) (.c 1) (.c 0)) .nil)))))))) (.c 0))⟩,
  ⟨[], (.bin .eq (.v 171910849147666243) (.ap 83 (.cons (.v 20) (.cons (.v 21) (.cons (.ap 1000 (.cons (.c 1) .nil)) (.cons (.ite (.ap 1002 (.cons (.c 1) .nil)) (.c 1) (.c 0)) (.cons (.v 13) .nil)))))))⟩,
  ⟨[(.bin .lt (.c 0) (.ite (.bin .and (.bin .lt (.c 0) (.v 157797374496499192)) (.bv 782741206561574860)) (.bin .sub (.v 157797374496499192) (.c 1)) (.v 157797374496499192)))], (.bin .lt (.c 1) (.v 4))⟩,
  ⟨[(.bin .lt (.c 0) (.ite (.bin .and (.bin .lt (.c 0) (.v 157797374496499192)) (.bv 782741206561574860)) (.bin .sub (.v 157797374496499192) (.c 1)) (.v 157797374496499192)))], (.bin .eq (.ap 88 (.cons (.v 20) (.cons (.v 21) (.cons (.v 22) (.cons (.v 23) (.cons (.ap 1000 (.cons (.c 1) .nil)) (.cons (.ap 1001 (.cons (.c 1) .nil)) (.cons (.ite (.ap 1002 (.cons (.c 1) .nil)) (.c 1) (.c 0)) .nil)))))))) (.c 0))⟩,
  ⟨[], (.ite (.bv 1198227363184215546) (.bin .lt (.v 171910849147666243) (.ap 83 (.cons (.v 20) (.cons (.v 21) (.cons (.ap 1000 (.cons (.c 1) .nil)) (.cons (.ite (.ap 1002 (.cons (.c 1) .nil)) (.c 1) (.c 0)) (.cons (.bin .add (.v 13) (.c 1)) .nil))))))) (.un .not (.bin .lt (.v 171910849147666243) (.ap 83 (.cons (.v 20) (.cons (.v 21) (.cons (.ap 1000 (.cons (.c 1) .nil)) (.cons (.ite (.ap 1002 (.cons (.c 1) .nil)) (.c 1) (.c 0)) (.cons (.bin .add (.v 13) (.c 1)) .nil)))))))))⟩,
  ⟨[], (.bin .eq (.v 265348424056978681) (.bin .sub (.ite (.bin .and (.bin .lt (.c 0) (.v 157797374496499192)) (.bv 782741206561574860)) (.bin .sub (.v 157797374496499192) (.c 1)) (.v 157797374496499192)) (.c 1)))⟩,
  ⟨[], (.bin .eq (.v 1265140037774112887) (.ite (.bin .and (.bin .lt (.c 0) (.ite (.bin .and (.bin .lt (.c 0) (.v 157797374496499192)) (.bv 782741206561574860)) (.bin .sub (.v 157797374496499192) (.c 1)) (.v 157797374496499192))) (.bv 1198227363184215546)) (.v 265348424056978681) (.ite (.bin .and (.bin .lt (.c 0) (.v 157797374496499192)) (.bv 782741206561574860)) (.bin .sub (.v 157797374496499192) (.c 1)) (.v 157797374496499192))))⟩,
  ⟨[], (.bin .eq (.v 1293947935901521602) (.ite (.bin .and (.bin .lt (.c 0) (.ite (.bin .and (.bin .lt (.c 0) (.v 157797374496499192)) (.bv 782741206561574860)) (.bin .sub (.v 157797374496499192) (.c 1)) (.v 157797374496499192))) (.bv 1198227363184215546)) (.bin .add (.v 171910849147666243) (.c 1)) (.v 171910849147666243)))⟩,
  ⟨[], (.bin .lt (.c 2) (.v 4))⟩,
  ⟨[], (.bin .eq (.ap 88 (.cons (.v 20) (.cons (.v 21) (.cons (.v 22) (.cons (.v 23) (.cons (.ap 1000 (.cons (.c 2) .nil)) (.cons (.ap 1001 (.cons (.c 2) .nil)) (.cons (.ite (.ap 1002 (.cons (.c 2) .nil)) (.c 1) (.c 0)) .nil)))))))) (.c 0))⟩,
  ⟨[], (.bin .eq (.v 334445701916657824) (.ap 83 (.cons (.v 20) (.cons (.v 21) (.cons (.ap 1000 (.cons (.c 2) .nil)) (.cons (.ite (.ap 1002 (.cons (.c 2) .nil)) (.c 1) (.c 0)) (.cons (.v 13) .nil)))))))⟩,
  ⟨[(.bin .lt (.c 0) (.v 1265140037774112887))], (.bin .lt (.c 2) (.v 4))⟩,
  ⟨[(.bin .lt (.c 0) (.v 1265140037774112887))], (.bin .eq (.ap 88 (.cons (.v 20) (.cons (.v 21) (.cons (.v 22) (.cons (.v 23) (.cons (.ap 1000 (.cons (.c 2) .nil)) (.cons (.ap 1001 (.cons (.c 2) .nil)) (.cons (.ite (.ap 1002 (.cons (.c 2) .nil)) (.c 1) (.c 0)) .nil)))))))) (.c 0))⟩,
  ⟨[], (.ite (.bv 1613713519806856232) (.bin .lt (.v 334445701916657824) (.ap 83 (.cons (.v 20) (.cons (.v 21) (.cons (.ap 1000 (.cons (.c 2) .nil)) (.cons (.ite (.ap 1002 (.cons (.c 2) .nil)) (.c 1) (.c 0)) (.cons (.bin .add (.v 13) (.c 1)) .nil))))))) (.un .not (.bin .lt (.v 334445701916657824) (.ap 83 (.cons (.v 20) (.cons (.v 21) (.cons (.ap 1000 (.cons (.c 2) .nil)) (.cons (.ite (.ap 1002 (.cons (.c 2) .nil)) (.c 1) (.c 0)) (.cons (.bin .add (.v 13) (.c 1)) .nil)))))))))⟩]
theorem sR3_ran2 : ran (runP Try.prog 23 (cfgK sRSum sR3Keeps 50 12) 89 (partOf Try.prog 89 4 10) sR3S1) sR3L2 sR3V2 = true := by kernel_rfl
def sR3W2 : List VC := [⟨[], (.bin .eq (.ap 87 (.cons (.c 0) (.cons (.v 20) (.cons (.v 21) (.cons (.v 22) (.cons (.v 23) .nil)))))) (.c 0))⟩, ⟨[], (.bin .lt (.c 0) (.v 4))⟩, ⟨[], (.bin .eq (.ap 88 (.cons (.v 20) (.cons (.v 21) (.cons (.v 22) (.cons (.v 23) (.cons (.ap 1000 (.cons (.c 0) .nil)) (.cons (.ap 1001 (.cons (.c 0) .nil)) (.cons (.ite (.ap 1002 (.cons (.c 0) .nil)) (.c 1) (.c 0)) .nil)))))))) (.c 0))⟩, ⟨[(.bin .lt (.c 0) (.v 157797374496499192))], (.bin .lt (.c 0) (.v 4))⟩, ⟨[(.bin .lt (.c 0) (.v 157797374496499192))], (.bin .eq (.ap 88 (.cons (.v 20) (.cons (.v 21) (.cons (.v 22) (.cons (.v 23) (.cons (.ap 1000 (.cons (.c 0) .nil)) (.cons (.ap 1001 (.cons (.c 0) .nil)) (.cons (.ite (.ap 1002 (.cons (.c 0) .nil)) (.c 1) (.c 0)) .nil)))))))) (.c 0))⟩, ⟨[], (.bin .lt (.c 1) (.v 4))⟩, ⟨[], (.bin .eq (.ap 88 (.cons (.v 20) (.cons (.v 21) (.cons (.v 22) (.cons (.v 23) (.cons (.ap 1000 (.cons (.c 1) .nil)) (.cons (.ap 1001 (.cons (.c 1) .nil)) (.cons (.ite (.ap 1002 (.cons (.c 1) .nil)) (.c 1) (.c 0)) .nil)))))))) (.c 0))⟩, ⟨[(.bin .lt (.c 0) (.ite (.bin .and (.bin .lt (.c 0) (.v 157797374496499192)) (.bv 782741206561574860)) (.bin .sub (.v 157797374496499192) (.c 1)) (.v 157797374496499192)))], (.bin .lt (.c 1) (.v 4))⟩, ⟨[(.bin .lt (.c 0) (.ite (.bin .and (.bin .lt (.c 0) (.v 157797374496499192)) (.bv 782741206561574860)) (.bin .sub (.v 157797374496499192) (.c 1)) (.v 157797374496499192)))], (.bin .eq (.ap 88 (.cons (.v 20) (.cons (.v 21) (.cons (.v 22) (.cons (.v 23) (.cons (.ap 1000 (.cons (.c 1) .nil)) (.cons (.ap 1001 (.cons (.c 1) .nil)) (.cons (.ite (.ap 1002 (.cons (.c 1) .nil)) (.c 1) (.c 0)) .nil)))))))) (.c 0))⟩, ⟨[], (.bin .lt (.c 2) (.v 4))⟩, ⟨[], (.bin .eq (.ap 88 (.cons (.v 20) (.cons (.v 21) (.cons (.v 22) (.cons (.v 23) (.cons (.ap 1000 (.cons (.c 2) .nil)) (.cons (.ap 1001 (.cons (.c 2) .nil)) (.cons (.ite (.ap 1002 (.cons (.c 2) .nil)) (.c 1) (.c 0)) .nil)))))))) (.c 0))⟩, ⟨[(.bin .lt (.c 0) (.v 1265140037774112887))], (.bin .lt (.c 2) (.v 4))⟩, ⟨[(.bin .lt (.c 0) (.v 1265140037774112887))], (.bin .eq (.ap 88 (.cons (.v 20) (.cons (.v 21) (.cons (.v 22) (.cons (.v 23) (.cons (.ap 1000 (.cons (.c 2) .nil)) (.cons (.ap 1001 (.cons (.c 2) .nil)) (.cons (.ite (.ap 1002 (.cons (.c 2) .nil)) (.c 1) (.c 0)) .nil)))))))) (.c 0))⟩]
theorem sR3_defs2 : defs sR3V2 [] [] = sR3W2 := by kernel_rfl
theorem sR3_no2 : sR3W2.all VC.isNo = true := by kernel_rfl
theorem sR3_w2 (ρ : Env) : andV ρ sR3W2 = ((True → (decide ((ρ.fn 87 ((0 : Int) :: ((ρ.iv 20) :: ((ρ.iv 21) :: ((ρ.iv 22) :: ((ρ.iv 23) :: [])))))) = (0 : Int))) = true) ∧ (True → (decide ((0 : Int) < (ρ.iv 4))) = true) ∧ (True → (decide ((ρ.fn 88 ((ρ.iv 20) :: ((ρ.iv 21) :: ((ρ.iv 22) :: ((ρ.iv 23) :: ((ρ.fn 1000 ((0 : Int) :: [])) :: ((ρ.fn 1001 ((0 : Int) :: [])) :: ((if (ρ.fb 1002 ((0 : Int) :: [])) = true then (1 : Int) else (0 : Int)) :: [])))))))) = (0 : Int))) = true) ∧ ((decide ((0 : Int) < (ρ.iv 157797374496499192))) = true ∧ True → (decide ((0 : Int) < (ρ.iv 4))) = true) ∧ ((decide ((0 : Int) < (ρ.iv 157797374496499192))) = true ∧ True → (decide ((ρ.fn 88 ((ρ.iv 20) :: ((ρ.iv 21) :: ((ρ.iv 22) :: ((ρ.iv 23) :: ((ρ.fn 1000 ((0 : Int) :: [])) :: ((ρ.fn 1001 ((0 : Int) :: [])) :: ((if (ρ.fb 1002 ((0 : Int) :: [])) = true then (1 : Int) else (0 : Int)) :: [])))))))) = (0 : Int))) = true) ∧ (True → (decide ((1 : Int) < (ρ.iv 4))) = true) ∧ (True → (decide ((ρ.fn 88 ((ρ.iv 20) :: ((ρ.iv 21) :: ((ρ.iv 22) :: ((ρ.iv 23) :: ((ρ.fn 1000 ((1 : Int) :: [])) :: ((ρ.fn 1001 ((1 : Int) :: [])) :: ((if (ρ.fb 1002 ((1 : Int) :: [])) = true then (1 : Int) else (0 : Int)) :: [])))))))) = (0 : Int))) = true) ∧ ((decide ((0 : Int) < (if ((decide ((0 : Int) < (ρ.iv 157797374496499192))) && (ρ.bv 782741206561574860)) = true then ((ρ.iv 157797374496499192) - (1 : Int)) else (ρ.iv 157797374496499192)))) = true ∧ True → (decide ((1 : Int) < (ρ.iv 4))) = true) ∧ ((decide ((0 : Int) < (if ((decide ((0 : Int) < (ρ.iv 157797374496499192))) && (ρ.bv 782741206561574860)) = true then ((ρ.iv 157797374496499192) - (1 : Int)) else (ρ.iv 157797374496499192)))) = true ∧ True → (decide ((ρ.fn 88 ((ρ.iv 20) :: ((ρ.iv 21) :: ((ρ.iv 22) :: ((ρ.iv 23) :: ((ρ.fn 1000 ((1 : Int) :: [])) :: ((ρ.fn 1001 ((1 : Int) :: [])) :: ((if (ρ.fb 1002 ((1 : Int) :: [])) = true then (1 : Int) else (0 : Int)) :: [])))))))) = (0 : Int))) = true) ∧ (True → (decide ((2 : Int) < (ρ.iv 4))) = true) ∧ (True → (decide ((ρ.fn 88 ((ρ.iv 20) :: ((ρ.iv 21) :: ((ρ.iv 22) :: ((ρ.iv 23) :: ((ρ.fn 1000 ((2 : Int) :: [])) :: ((ρ.fn 1001 ((2 : Int) :: [])) :: ((if (ρ.fb 1002 ((2 : Int) :: [])) = true then (1 : Int) else (0 : Int)) :: [])))))))) = (0 : Int))) = true) ∧ ((decide ((0 : Int) < (ρ.iv 1265140037774112887))) = true ∧ True → (decide ((2 : Int) < (ρ.iv 4))) = true) ∧ ((decide ((0 : Int) < (ρ.iv 1265140037774112887))) = true ∧ True → (decide ((ρ.fn 88 ((ρ.iv 20) :: ((ρ.iv 21) :: ((ρ.iv 22) :: ((ρ.iv 23) :: ((ρ.fn 1000 ((2 : Int) :: [])) :: ((ρ.fn 1001 ((2 : Int) :: [])) :: ((if (ρ.fb 1002 ((2 : Int) :: [])) = true then (1 : Int) else (0 : Int)) :: [])))))))) = (0 : Int))) = true) ∧ True) := by kernel_rfl
theorem sR3_says2 (ρ : Env) : saysL ρ sR3V2 = (True ∧
  ρ.iv 157797374496499192 = ((ρ.iv 15) - (ρ.fn 84 ((0 : Int) :: ((ρ.iv 20) :: ((ρ.iv 21) :: ((ρ.iv 13) :: [])))))) ∧
  True ∧
  True ∧
  ρ.iv 9375996378674662 = (ρ.fn 83 ((ρ.iv 20) :: ((ρ.iv 21) :: ((ρ.fn 1000 ((0 : Int) :: [])) :: ((if (ρ.fb 1002 ((0 : Int) :: [])) = true then (1 : Int) else (0 : Int)) :: ((ρ.iv 13) :: [])))))) ∧
  True ∧
  True ∧
  ρ.bv 782741206561574860 = (decide ((ρ.iv 9375996378674662) < (ρ.fn 83 ((ρ.iv 20) :: ((ρ.iv 21) :: ((ρ.fn 1000 ((0 : Int) :: [])) :: ((if (ρ.fb 1002 ((0 : Int) :: [])) = true then (1 : Int) else (0 : Int)) :: (((ρ.iv 13) + (1 : Int)) :: [])))))))) ∧
  True ∧
  True ∧
  ρ.iv 171910849147666243 = (ρ.fn 83 ((ρ.iv 20) :: ((ρ.iv 21) :: ((ρ.fn 1000 ((1 : Int) :: [])) :: ((if (ρ.fb 1002 ((1 : Int) :: [])) = true then (1 : Int) else (0 : Int)) :: ((ρ.iv 13) :: [])))))) ∧
  True ∧
  True ∧
  ρ.bv 1198227363184215546 = (decide ((ρ.iv 171910849147666243) < (ρ.fn 83 ((ρ.iv 20) :: ((ρ.iv 21) :: ((ρ.fn 1000 ((1 : Int) :: [])) :: ((if (ρ.fb 1002 ((1 : Int) :: [])) = true then (1 : Int) else (0 : Int)) :: (((ρ.iv 13) + (1 : Int)) :: [])))))))) ∧
  ρ.iv 265348424056978681 = ((if ((decide ((0 : Int) < (ρ.iv 157797374496499192))) && (ρ.bv 782741206561574860)) = true then ((ρ.iv 157797374496499192) - (1 : Int)) else (ρ.iv 157797374496499192)) - (1 : Int)) ∧
  ρ.iv 1265140037774112887 = (if ((decide ((0 : Int) < (if ((decide ((0 : Int) < (ρ.iv 157797374496499192))) && (ρ.bv 782741206561574860)) = true then ((ρ.iv 157797374496499192) - (1 : Int)) else (ρ.iv 157797374496499192)))) && (ρ.bv 1198227363184215546)) = true then (ρ.iv 265348424056978681) else (if ((decide ((0 : Int) < (ρ.iv 157797374496499192))) && (ρ.bv 782741206561574860)) = true then ((ρ.iv 157797374496499192) - (1 : Int)) else (ρ.iv 157797374496499192))) ∧
  ρ.iv 1293947935901521602 = (if ((decide ((0 : Int) < (if ((decide ((0 : Int) < (ρ.iv 157797374496499192))) && (ρ.bv 782741206561574860)) = true then ((ρ.iv 157797374496499192) - (1 : Int)) else (ρ.iv 157797374496499192)))) && (ρ.bv 1198227363184215546)) = true then ((ρ.iv 171910849147666243) + (1 : Int)) else (ρ.iv 171910849147666243)) ∧
  True ∧
  True ∧
  ρ.iv 334445701916657824 = (ρ.fn 83 ((ρ.iv 20) :: ((ρ.iv 21) :: ((ρ.fn 1000 ((2 : Int) :: [])) :: ((if (ρ.fb 1002 ((2 : Int) :: [])) = true then (1 : Int) else (0 : Int)) :: ((ρ.iv 13) :: [])))))) ∧
  True ∧
  True ∧
  ρ.bv 1613713519806856232 = (decide ((ρ.iv 334445701916657824) < (ρ.fn 83 ((ρ.iv 20) :: ((ρ.iv 21) :: ((ρ.fn 1000 ((2 : Int) :: [])) :: ((if (ρ.fb 1002 ((2 : Int) :: [])) = true then (1 : Int) else (0 : Int)) :: (((ρ.iv 13) + (1 : Int)) :: [])))))))) ∧
  True) := by kernel_rfl
end Go.Proofs.Ytdfpenjhpemokaa.Sx
/-
  R.Spread: worked out. Written by a program of ours (wip/dev/sx).
-/
namespace Go.Proofs.Ytdfpenjhpemokaa.Sx
def sR4Keeps : List (Nat × List (Nat × List Nat)) := [(49, [(0, [2, 3, 4]), (1, [2, 3, 4, 6]), (2, [4]), (3, [4])]),
  (51, [(0, [0, 1, 2]), (1, [6])]),
  (89, [(0, [1, 2, 3]), (1, [1, 2, 3]), (2, [1, 2, 3, 7]), (3, [1, 2, 3, 7, 39]), (4, [1, 2, 3, 7]), (5, [1, 3, 7, 8]), (6, [1, 3, 7, 8, 9]), (7, [1, 3, 7, 8, 9, 10]), (8, [1, 3, 7, 8, 9, 10, 51]), (9, [1, 3, 7, 8, 9, 10]), (10, [1, 3, 7, 8, 9, 10, 11]), (11, [1, 3, 7, 8, 9, 10, 11, 74]), (12, [1, 3, 7, 8, 9, 10, 11]), (13, [1, 3, 7, 8, 9, 10, 11]), (14, [1, 3, 7, 8, 9, 10]), (15, [6])]),
  (124, [(0, [1, 2, 3]), (1, [1, 2, 3, 7]), (2, [1, 2, 3, 7, 8]), (3, [1, 2, 3, 7, 8, 12]), (4, [1, 2, 3, 7, 8]), (5, [1, 2, 3, 7, 8]), (6, [6])]),
  (155, [(0, [2, 3, 4]), (1, [2, 7]), (2, [6])])]
def sR4Args : List SV := [.agg [.int .i64 ⟨(.v 20), 1, 1000⟩, .int .i64 ⟨(.v 21), 1, 1000⟩, .int .i64 ⟨(.v 22), 0, 1000⟩, .int .i64 ⟨(.v 23), 1, 10⟩], .osl 0 [.int .i64 (-9223372036854775808) 9223372036854775807, .int .i64 (-9223372036854775808) 9223372036854775807, .bool] ⟨(.v 4), 4, 4⟩, .int .i64 ⟨(.v 24), (-9223372036854775808), 9223372036854775807⟩]
def sR4S1 : St := ⟨[(7, ⟨[], .int .i64 ⟨(.v 13), (-1000), 1000⟩⟩), (3, ⟨[], .ptr 0 0⟩), (1, ⟨[], .osl 0 [.int .i64 (-9223372036854775808) 9223372036854775807, .int .i64 (-9223372036854775808) 9223372036854775807, .bool] ⟨(.v 4), 4, 4⟩⟩), (2, ⟨[], .int .i64 ⟨(.v 15), (-4000), 4000⟩⟩)], [(0, ⟨[], ⟨[.int .i64 ⟨(.v 20), 1, 1000⟩, .int .i64 ⟨(.v 21), 1, 1000⟩, .int .i64 ⟨(.v 22), 0, 1000⟩, .int .i64 ⟨(.v 23), 1, 10⟩], 53, .full⟩⟩)], 1, 84⟩
def sR4L0 : List LS := [⟨[], .normal, sR4S1, ⟨[(13, (.v 20)), (15, (.v 764873220800522583))], []⟩⟩]
def sR4V0 : List VC := [⟨[], (.bin .eq (.ap 87 (.cons (.c 0) (.cons (.v 20) (.cons (.v 21) (.cons (.v 22) (.cons (.v 23) .nil)))))) (.c 0))⟩,
  ⟨[], (.bin .eq (.v 470975408974876763) (.ap 84 (.cons (.c 0) (.cons (.v 20) (.cons (.v 21) (.cons (.bin .sub (.c 0) (.v 20)) .nil))))))⟩,
  ⟨[], (.bin .eq (.v 764873220800522583) (.bin .min (.bin .max (.v 24) (.v 470975408974876763)) (.ap 84 (.cons (.c 0) (.cons (.v 20) (.cons (.v 21) (.cons (.v 20) .nil)))))))⟩]
theorem sR4_ran0 : ran (runP Try.prog 23 (cfgK sRSum sR4Keeps 50 12) 89 (partOf Try.prog 89 0 3) (start Try.prog 89 sR4Args [] 0)) sR4L0 sR4V0 = true := by kernel_rfl
def sR4W0 : List VC := [⟨[], (.bin .eq (.ap 87 (.cons (.c 0) (.cons (.v 20) (.cons (.v 21) (.cons (.v 22) (.cons (.v 23) .nil)))))) (.c 0))⟩]
theorem sR4_defs0 : defs sR4V0 [] [] = sR4W0 := by kernel_rfl
theorem sR4_no0 : sR4W0.all VC.isNo = true := by kernel_rfl
theorem sR4_w0 (ρ : Env) : andV ρ sR4W0 = ((True → (decide ((ρ.fn 87 ((0 : Int) :: ((ρ.iv 20) :: ((ρ.iv 21) :: ((ρ.iv 22) :: ((ρ.iv 23) :: [])))))) = (0 : Int))) = true) ∧ True) := by kernel_rfl
theorem sR4_says0 (ρ : Env) : saysL ρ sR4V0 = (True ∧
  ρ.iv 470975408974876763 = (ρ.fn 84 ((0 : Int) :: ((ρ.iv 20) :: ((ρ.iv 21) :: (((0 : Int) - (ρ.iv 20)) :: []))))) ∧
  ρ.iv 764873220800522583 = (min (max (ρ.iv 24) (ρ.iv 470975408974876763)) (ρ.fn 84 ((0 : Int) :: ((ρ.iv 20) :: ((ρ.iv 21) :: ((ρ.iv 20) :: [])))))) ∧
  True) := by kernel_rfl
def sR4L1 : List LS := [⟨[(.bin .and (.bin .lt (.bin .sub (.c 0) (.v 20)) (.v 13)) (.bin .lt (.v 15) (.ap 84 (.cons (.c 0) (.cons (.v 20) (.cons (.v 21) (.cons (.v 13) .nil)))))))], .normal, sR4S1, ⟨[(13, (.bin .sub (.v 13) (.c 1)))], []⟩⟩,
  ⟨[(.un .not (.bin .and (.bin .lt (.bin .sub (.c 0) (.v 20)) (.v 13)) (.bin .lt (.v 15) (.ap 84 (.cons (.c 0) (.cons (.v 20) (.cons (.v 21) (.cons (.v 13) .nil))))))))], (.exit 0), sR4S1, ⟨[], []⟩⟩]
def sR4V1 : List VC := [⟨[(.bin .lt (.bin .sub (.c 0) (.v 20)) (.v 13))], (.bin .eq (.ap 87 (.cons (.c 0) (.cons (.v 20) (.cons (.v 21) (.cons (.v 22) (.cons (.v 23) .nil)))))) (.c 0))⟩]
theorem sR4_ran1 : ran (runP Try.prog 23 (cfgK sRSum sR4Keeps 50 12) 89 (loopOf Try.prog 89 3) sR4S1) sR4L1 sR4V1 = true := by kernel_rfl
def sR4W1 : List VC := [⟨[(.bin .lt (.bin .sub (.c 0) (.v 20)) (.v 13))], (.bin .eq (.ap 87 (.cons (.c 0) (.cons (.v 20) (.cons (.v 21) (.cons (.v 22) (.cons (.v 23) .nil)))))) (.c 0))⟩]
theorem sR4_defs1 : defs sR4V1 [] [] = sR4W1 := by kernel_rfl
theorem sR4_no1 : sR4W1.all VC.isNo = true := by kernel_rfl
theorem sR4_w1 (ρ : Env) : andV ρ sR4W1 = (((decide (((0 : Int) - (ρ.iv 20)) < (ρ.iv 13))) = true ∧ True → (decide ((ρ.fn 87 ((0 : Int) :: ((ρ.iv 20) :: ((ρ.iv 21) :: ((ρ.iv 22) :: ((ρ.iv 23) :: [])))))) = (0 : Int))) = true) ∧ True) := by kernel_rfl
theorem sR4_1_pc0 (ρ : Env) : andB ρ [(.bin .and (.bin .lt (.bin .sub (.c 0) (.v 20)) (.v 13)) (.bin .lt (.v 15) (.ap 84 (.cons (.c 0) (.cons (.v 20) (.cons (.v 21) (.cons (.v 13) .nil)))))))] = (((decide (((0 : Int) - (ρ.iv 20)) < (ρ.iv 13))) && (decide ((ρ.iv 15) < (ρ.fn 84 ((0 : Int) :: ((ρ.iv 20) :: ((ρ.iv 21) :: ((ρ.iv 13) :: [])))))))) = true ∧ True) := by kernel_rfl
theorem sR4_1_pc1 (ρ : Env) : andB ρ [(.un .not (.bin .and (.bin .lt (.bin .sub (.c 0) (.v 20)) (.v 13)) (.bin .lt (.v 15) (.ap 84 (.cons (.c 0) (.cons (.v 20) (.cons (.v 21) (.cons (.v 13) .nil))))))))] = ((!((decide (((0 : Int) - (ρ.iv 20)) < (ρ.iv 13))) && (decide ((ρ.iv 15) < (ρ.fn 84 ((0 : Int) :: ((ρ.iv 20) :: ((ρ.iv 21) :: ((ρ.iv 13) :: []))))))))) = true ∧ True) := by kernel_rfl
def sR4L2 : List LS := [⟨[], .ret, ⟨[(6, ⟨[], .sl 8 0 4 none⟩)], [(8, ⟨[], ⟨[.int .i64 ⟨(.v 900), (-1000), 1001⟩, .int .i64 ⟨(.v 901), (-1000), 1001⟩, .int .i64 ⟨(.v 902), (-1000), 1001⟩, .int .i64 ⟨(.v 903), (-1000), 1001⟩], 3, (.grow 1)⟩⟩)], 9, 84⟩, ⟨[(900, (.ite (.bin .and (.bin .lt (.c 0) (.v 157797374496499192)) (.bv 782741206561574860)) (.bin .add (.v 9375996378674662) (.c 1)) (.v 9375996378674662))), (901, (.v 1293947935901521602)), (902, (.ite (.bin .and (.bin .lt (.c 0) (.v 1265140037774112887)) (.bv 1613713519806856232)) (.bin .add (.v 334445701916657824) (.c 1)) (.v 334445701916657824))), (903, (.v 468382183674647108))], []⟩⟩]
def sR4V2 : List VC := [⟨[], (.bin .eq (.ap 87 (.cons (.c 0) (.cons (.v 20) (.cons (.v 21) (.cons (.v 22) (.cons (.v 23) .nil)))))) (.c 0))⟩,
  ⟨[], (.bin .eq (.v 157797374496499192) (.bin .sub (.v 15) (.ap 84 (.cons (.c 0) (.cons (.v 20) (.cons (.v 21) (.cons (.v 13) .nil)))))))⟩,
  ⟨[], (.bin .lt (.c 0) (.v 4))⟩,
  ⟨[], (.bin .eq (.ap 88 (.cons (.v 20) (.cons (.v 21) (.cons (.v 22) (.cons (.v 23) (.cons (.ap 1000 (.cons (.c 0) .nil)) (.cons (.ap 1001 (.cons (.c 0) .nil)) (.cons (.ite (.ap 1002 (.cons (.c 0) .nil)) (.c 1) (.c 0)) .nil)))))))) (.c 0))⟩,
  ⟨[], (.bin .eq (.v 9375996378674662) (.ap 83 (.cons (.v 20) (.cons (.v 21) (.cons (.ap 1000 (.cons (.c 0) .nil)) (.cons (.ite (.ap 1002 (.cons (.c 0) .nil)) (.c 1) (.c 0)) (.cons (.v 13) .nil)))))))⟩,
  ⟨[(.bin .lt (.c 0) (.v 157797374496499192))], (.bin .lt (.c 0) (.v 4))⟩,
  ⟨[(.bin .lt (.c 0) (.v 157797374496499192))], (.bin .eq (.ap 88 (.cons (.v 20) (.cons (.v 21) (.cons (.v 22) (.cons (.v 23) (.cons (.ap 1000 (.cons (.c 0) .nil)) (.cons (.ap 1001 (.cons (.c 0) .nil)) (.cons (.ite (.ap 1002 (.cons (.c 0) .nil)) (.c 1) (.c 0)) .nil)))))))) (.c 0))⟩,
  ⟨[], (.ite (.bv 782741206561574860) (.bin .lt (.v 9375996378674662) (.ap 83 (.cons (.v 20) (.cons (.v 21) (.cons (.ap 1000 (.cons (.c 0) .nil)) (.cons (.ite (.ap 1002 (.cons (.c 0) .nil)) (.c 1) (.c 0)) (.cons (.bin .add (.v 13) (.c 1)) .nil))))))) (.un .not (.bin .lt (.v 9375996378674662) (.ap 83 (.cons (.v 20) (.cons (.v 21) (.cons (.ap 1000 (.cons (.c 0) .nil)) (.cons (.ite (.ap 1002 (.cons (.c 0) .nil)) (.c 1) (.c 0)) (.cons (.bin .add (.v 13) (.c 1)) .nil)))))))))⟩,
  ⟨[], (.bin .lt (.c 1) (.v 4))⟩,
  ⟨[], (.bin .eq (.ap 88 (.cons (.v 20) (.cons (.v 21) (.cons (.v 22) (.cons (.v 23) (.cons (.ap 1000 (.cons (.c 1) .nil)) (.cons (.ap 1001 (.cons (.c 1) .nil)) (.cons (.ite (.ap 1002 (.cons (.c 1) .nil)) (.c 1) (.c 0)) .nil)))))))) (.c 0))⟩,
  ⟨[], (.bin .eq (.v 171910849147666243) (.ap 83 (.cons (.v 20) (.cons (.v 21) (.cons (.ap 1000 (.cons (.c 1) .nil)) (.cons (.ite (.ap 1002 (.cons (.c 1) .nil)) (.c 1) (.c 0)) (.cons (.v 13) .nil)))))))⟩,
  ⟨[(.bin .lt (.c 0) (.ite (.bin .and (.bin .lt (.c 0) (.v 157797374496499192)) (.bv 782741206561574860)) (.bin .sub (.v 157797374496499192) (.c 1)) (.v 157797374496499192)))], (.bin .lt (.c 1) (.v 4))⟩,
  ⟨[(.bin .lt (.c 0) (.ite (.bin .and (.bin .lt (.c 0) (.v 157797374496499192)) (.bv 782741206561574860)) (.bin .sub (.v 157797374496499192) (.c 1)) (.v 157797374496499192)))], (.bin .eq (.ap 88 (.cons (.v 20) (.cons (.v 21) (.cons (.v 22) (.cons (.v 23) (.cons (.ap 1000 (.cons (.c 1) .nil)) (.cons (.ap 1001 (.cons (.c 1) .nil)) (.cons (.ite (.ap 1002 (.cons (.c 1) .nil)) (.c 1) (.c 0)) .nil)))))))) (.c 0))⟩,
  ⟨[], (.ite (.bv 1198227363184215546) (.bin .lt (.v 171910849147666243) (.ap 83 (.cons (.v 20) (.cons (.v 21) (.cons (.ap 1000 (.cons (.c 1) .nil)) (.cons (.ite (.ap 1002 (.cons (.c 1) .nil)) (.c 1) (.c 0)) (.cons (.bin .add (.v 13) (.c 1)) .nil))))))) (.un .not (.bin .lt (.v 171910849147666243) (.ap 83 (.cons (.v 20) (.cons (.v 21) (.cons (.ap 1000 (.cons (.c 1) .nil)) (.cons (.ite (.ap 1002 (.cons (.c 1) .nil)) (.c 1) (.c 0)) (.cons (.bin .add (.v 13) (.c 1)) .nil)))))))))⟩,
  ⟨[], (.bin .eq (.v 265348424056978681) (.bin .sub (.ite (.bin .and (.bin .lt (.c 0) (.v 157797374496499192)) (.bv 782741206561574860)) (.bin .sub (.v 157797374496499192) (.c 1)) (.v 157797374496499192)) (.c 1)))⟩,
  ⟨[], (.bin .eq (.v 1265140037774112887) (.ite (.bin .and (.bin .lt (.c 0) (.ite (.bin .and (.bin .lt (.c 0) (.v 157797374496499192)) (.bv 782741206561574860)) (.bin .sub (.v 157797374496499192) (.c 1)) (.v 157797374496499192))) (.bv 1198227363184215546)) (.v 265348424056978681) (.ite (.bin .and (.bin .lt (.c 0) (.v 157797374496499192)) (.bv 782741206561574860)) (.bin .sub (.v 157797374496499192) (.c 1)) (.v 157797374496499192))))⟩,
  ⟨[], (.bin .eq (.v 1293947935901521602) (.ite (.bin .and (.bin .lt (.c 0) (.ite (.bin .and (.bin .lt (.c 0) (.v 157797374496499192)) (.bv 782741206561574860)) (.bin .sub (.v 157797374496499192) (.c 1)) (.v 157797374496499192))) (.bv 1198227363184215546)) (.bin .add (.v 171910849147666243) (.c 1)) (.v 171910849147666243)))⟩,
  ⟨[], (.bin .lt (.c 2) (.v 4))⟩,
  ⟨[], (.bin .eq (.ap 88 (.cons (.v 20) (.cons (.v 21) (.cons (.v 22) (.cons (.v 23) (.cons (.ap 1000 (.cons (.c 2) .nil)) (.cons (.ap 1001 (.cons (.c 2) .nil)) (.cons (.ite (.ap 1002 (.cons (.c 2) .nil)) (.c 1) (.c 0)) .nil)))))))) (.c 0))⟩,
  ⟨[], (.bin .eq (.v 334445701916657824) (.ap 83 (.cons (.v 20) (.cons (.v 21) (.cons (.ap 1000 (.cons (.c 2) .nil)) (.cons (.ite (.ap 1002 (.cons (.c 2) .nil)) (.c 1) (.c 0)) (.cons (.v 13) .nil)))))))⟩,
  ⟨[(.bin .lt (.c 0) (.v 1265140037774112887))], (.bin .lt (.c 2) (.v 4))⟩,
  ⟨[(.bin .lt (.c 0) (.v 1265140037774112887))], (.bin .eq (.ap 88 (.cons (.v 20) (.cons (.v 21) (.cons (.v 22) (.cons (.v 23) (.cons (.ap 1000 (.cons (.c 2) .nil)) (.cons (.ap 1001 (.cons (.c 2) .nil)) (.cons (.ite (.ap 1002 (.cons (.c 2) .nil)) (.c 1) (.c 0)) .nil)))))))) (.c 0))⟩,
  ⟨[], (.ite (.bv 1613713519806856232) (.bin .lt (.v 334445701916657824) (.ap 83 (.cons (.v 20) (.cons (.v 21) (.cons (.ap 1000 (.cons (.c 2) .nil)) (.cons (.ite (.ap 1002 (.cons (.c 2) .nil)) (.c 1) (.c 0)) (.cons (.bin .add (.v 13) (.c 1)) .nil))))))) (.un .not (.bin .lt (.v 334445701916657824) (.ap 83 (.cons (.v 20) (.cons (.v 21) (.cons (.ap 1000 (.cons (.c 2) .nil)) (.cons (.ite (.ap 1002 (.cons (.c 2) .nil)) (.c 1) (.c 0)) (.cons (.bin .add (.v 13) (.c 1)) .nil)))))))))⟩,
  ⟨[], (.bin .lt (.c 3) (.v 4))⟩,
  ⟨[], (.bin .eq (.ap 88 (.cons (.v 20) (.cons (.v 21) (.cons (.v 22) (.cons (.v 23) (.cons (.ap 1000 (.cons (.c 3) .nil)) (.cons (.ap 1001 (.cons (.c 3) .nil)) (.cons (.ite (.ap 1002 (.cons (.c 3) .nil)) (.c 1) (.c 0)) .nil)))))))) (.c 0))⟩,
  ⟨[], (.bin .eq (.v 496980554685649405) (.ap 83 (.cons (.v 20) (.cons (.v 21) (.cons (.ap 1000 (.cons (.c 3) .nil)) (.cons (.ite (.ap 1002 (.cons (.c 3) .nil)) (.c 1) (.c 0)) (.cons (.v 13) .nil)))))))⟩,
  ⟨[(.bin .lt (.c 0) (.ite (.bin .and (.bin .lt (.c 0) (.v 1265140037774112887)) (.bv 1613713519806856232)) (.bin .sub (.v 1265140037774112887) (.c 1)) (.v 1265140037774112887)))], (.bin .lt (.c 3) (.v 4))⟩,
  ⟨[(.bin .lt (.c 0) (.ite (.bin .and (.bin .lt (.c 0) (.v 1265140037774112887)) (.bv 1613713519806856232)) (.bin .sub (.v 1265140037774112887) (.c 1)) (.v 1265140037774112887)))], (.bin .eq (.ap 88 (.cons (.v 20) (.cons (.v 21) (.cons (.v 22) (.cons (.v 23) (.cons (.ap 1000 (.cons (.c 3) .nil)) (.cons (.ap 1001 (.cons (.c 3) .nil)) (.cons (.ite (.ap 1002 (.cons (.c 3) .nil)) (.c 1) (.c 0)) .nil)))))))) (.c 0))⟩,
  ⟨[], (.ite (.bv 2029199676429496918) (.bin .lt (.v 496980554685649405) (.ap 83 (.cons (.v 20) (.cons (.v 21) (.cons (.ap 1000 (.cons (.c 3) .nil)) (.cons (.ite (.ap 1002 (.cons (.c 3) .nil)) (.c 1) (.c 0)) (.cons (.bin .add (.v 13) (.c 1)) .nil))))))) (.un .not (.bin .lt (.v 496980554685649405) (.ap 83 (.cons (.v 20) (.cons (.v 21) (.cons (.ap 1000 (.cons (.c 3) .nil)) (.cons (.ite (.ap 1002 (.cons (.c 3) .nil)) (.c 1) (.c 0)) (.cons (.bin .add (.v 13) (.c 1)) .nil)))))))))⟩,
  ⟨[], (.bin .eq (.v 2010879829745906254) (.bin .sub (.ite (.bin .and (.bin .lt (.c 0) (.v 1265140037774112887)) (.bv 1613713519806856232)) (.bin .sub (.v 1265140037774112887) (.c 1)) (.v 1265140037774112887)) (.c 1)))⟩,
  ⟨[], (.bin .eq (.v 1075875825768588109) (.ite (.bin .and (.bin .lt (.c 0) (.ite (.bin .and (.bin .lt (.c 0) (.v 1265140037774112887)) (.bv 1613713519806856232)) (.bin .sub (.v 1265140037774112887) (.c 1)) (.v 1265140037774112887))) (.bv 2029199676429496918)) (.v 2010879829745906254) (.ite (.bin .and (.bin .lt (.c 0) (.v 1265140037774112887)) (.bv 1613713519806856232)) (.bin .sub (.v 1265140037774112887) (.c 1)) (.v 1265140037774112887))))⟩,
  ⟨[], (.bin .eq (.v 468382183674647108) (.ite (.bin .and (.bin .lt (.c 0) (.ite (.bin .and (.bin .lt (.c 0) (.v 1265140037774112887)) (.bv 1613713519806856232)) (.bin .sub (.v 1265140037774112887) (.c 1)) (.v 1265140037774112887))) (.bv 2029199676429496918)) (.bin .add (.v 496980554685649405) (.c 1)) (.v 496980554685649405)))⟩]
theorem sR4_ran2 : ran (runP Try.prog 23 (cfgK sRSum sR4Keeps 50 12) 89 (partOf Try.prog 89 4 10) sR4S1) sR4L2 sR4V2 = true := by kernel_rfl
def sR4W2 : List VC := [⟨[], (.bin .eq (.ap 87 (.cons (.c 0) (.cons (.v 20) (.cons (.v 21) (.cons (.v 22) (.cons (.v 23) .nil)))))) (.c 0))⟩, ⟨[], (.bin .lt (.c 0) (.v 4))⟩, ⟨[], (.bin .eq (.ap 88 (.cons (.v 20) (.cons (.v 21) (.cons (.v 22) (.cons (.v 23) (.cons (.ap 1000 (.cons (.c 0) .nil)) (.cons (.ap 1001 (.cons (.c 0) .nil)) (.cons (.ite (.ap 1002 (.cons (.c 0) .nil)) (.c 1) (.c 0)) .nil)))))))) (.c 0))⟩, ⟨[(.bin .lt (.c 0) (.v 157797374496499192))], (.bin .lt (.c 0) (.v 4))⟩, ⟨[(.bin .lt (.c 0) (.v 157797374496499192))], (.bin .eq (.ap 88 (.cons (.v 20) (.cons (.v 21) (.cons (.v 22) (.cons (.v 23) (.cons (.ap 1000 (.cons (.c 0) .nil)) (.cons (.ap 1001 (.cons (.c 0) .nil)) (.cons (.ite (.ap 1002 (.cons (.c 0) .nil)) (.c 1) (.c 0)) .nil)))))))) (.c 0))⟩, ⟨[], (.bin .lt (.c 1) (.v 4))⟩, ⟨[], (.bin .eq (.ap 88 (.cons (.v 20) (.cons (.v 21) (.cons (.v 22) (.cons (.v 23) (.cons (.ap 1000 (.cons (.c 1) .nil)) (.cons (.ap 1001 (.cons (.c 1) .nil)) (.cons (.ite (.ap 1002 (.cons (.c 1) .nil)) (.c 1) (.c 0)) .nil)))))))) (.c 0))⟩, ⟨[(.bin .lt (.c 0) (.ite (.bin .and (.bin .lt (.c 0) (.v 157797374496499192)) (.bv 782741206561574860)) (.bin .sub (.v 157797374496499192) (.c 1)) (.v 157797374496499192)))], (.bin .lt (.c 1) (.v 4))⟩, ⟨[(.bin .lt (.c 0) (.ite (.bin .and (.bin .lt (.c 0) (.v 157797374496499192)) (.bv 782741206561574860)) (.bin .sub (.v 157797374496499192) (.c 1)) (.v 157797374496499192)))], (.bin .eq (.ap 88 (.cons (.v 20) (.cons (.v 21) (.cons (.v 22) (.cons (.v 23) (.cons (.ap 1000 (.cons (.c 1) .nil)) (.cons (.ap 1001 (.cons (.c 1) .nil)) (.cons (.ite (.ap 1002 (.cons (.c 1) .nil)) (.c 1) (.c 0)) .nil)))))))) (.c 0))⟩, ⟨[], (.bin .lt (.c 2) (.v 4))⟩, ⟨[], (.bin .eq (.ap 88 (.cons (.v 20) (.cons (.v 21) (.cons (.v 22) (.cons (.v 23) (.cons (.ap 1000 (.cons (.c 2) .nil)) (.cons (.ap 1001 (.cons (.c 2) .nil)) (.cons (.ite (.ap 1002 (.cons (.c 2) .nil)) (.c 1) (.c 0)) .nil)))))))) (.c 0))⟩, ⟨[(.bin .lt (.c 0) (.v 1265140037774112887))], (.bin .lt (.c 2) (.v 4))⟩, ⟨[(.bin .lt (.c 0) (.v 1265140037774112887))], (.bin .eq (.ap 88 (.cons (.v 20) (.cons (.v 21) (.cons (.v 22) (.cons (.v 23) (.cons (.ap 1000 (.cons (.c 2) .nil)) (.cons (.ap 1001 (.cons (.c 2) .nil)) (.cons (.ite (.ap 1002 (.cons (.c 2) .nil)) (.c 1) (.c 0)) .nil)))))))) (.c 0))⟩, ⟨[], (.bin .lt (.c 3) (.v 4))⟩, ⟨[], (.bin .eq (.ap 88 (.cons (.v 20) (.cons (.v 21) (.cons (.v 22) (.cons (.v 23) (.cons (.ap 1000 (.cons (.c 3) .nil)) (.cons (.ap 1001 (.cons (.c 3) .nil)) (.cons (.ite (.ap 1002 (.cons (.c 3) .nil)) (.c 1) (.c 0)) .nil)))))))) (.c 0))⟩, ⟨[(.bin .lt (.c 0) (.ite (.bin .and (.bin .lt (.c 0) (.v 1265140037774112887)) (.bv 1613713519806856232)) (.bin .sub (.v 1265140037774112887) (.c 1)) (.v 1265140037774112887)))], (.bin .lt (.c 3) (.v 4))⟩, ⟨[(.bin .lt (.c 0) (.ite (.bin .and (.bin .lt (.c 0) (.v 1265140037774112887)) (.bv 1613713519806856232)) (.bin .sub (.v 1265140037774112887) (.c 1)) (.v 1265140037774112887)))], (.bin .eq (.ap 88 (.cons (.v 20) (.cons (.v 21) (.cons (.v 22) (.cons (.v 23) (.cons (.ap 1000 (.cons (.c 3) .nil)) (.cons (.ap 1001 (.cons (.c 3) .nil)) (.cons (.ite (.ap 1002 (.cons (.c 3) .nil)) (.c 1) (.c 0)) .nil)))))))) (.c 0))⟩]
theorem sR4_defs2 : defs sR4V2 [] [] = sR4W2 := by kernel_rfl
theorem sR4_no2 : sR4W2.all VC.isNo = true := by kernel_rfl
theorem sR4_w2 (ρ : Env) : andV ρ sR4W2 = ((True → (decide ((ρ.fn 87 ((0 : Int) :: ((ρ.iv 20) :: ((ρ.iv 21) :: ((ρ.iv 22) :: ((ρ.iv 23) :: [])))))) = (0 : Int))) = true) ∧ (True → (decide ((0 : Int) < (ρ.iv 4))) = true) ∧ (True → (decide ((ρ.fn 88 ((ρ.iv 20) :: ((ρ.iv 21) :: ((ρ.iv 22) :: ((ρ.iv 23) :: ((ρ.fn 1000 ((0 : Int) :: [])) :: ((ρ.fn 1001 ((0 : Int) :: [])) :: ((if (ρ.fb 1002 ((0 : Int) :: [])) = true then (1 : Int) else (0 : Int)) :: [])))))))) = (0 : Int))) = true) ∧ ((decide ((0 : Int) < (ρ.iv 157797374496499192))) = true ∧ True → (decide ((0 : Int) < (ρ.iv 4))) = true) ∧ ((decide ((0 : Int) < (ρ.iv 157797374496499192))) = true ∧ True → (decide ((ρ.fn 88 ((ρ.iv 20) :: ((ρ.iv 21) :: ((ρ.iv 22) :: ((ρ.iv 23) :: ((ρ.fn 1000 ((0 : Int) :: [])) :: ((ρ.fn 1001 ((0 : Int) :: [])) :: ((if (ρ.fb 1002 ((0 : Int) :: [])) = true then (1 : Int) else (0 : Int)) :: [])))))))) = (0 : Int))) = true) ∧ (True → (decide ((1 : Int) < (ρ.iv 4))) = true) ∧ (True → (decide ((ρ.fn 88 ((ρ.iv 20) :: ((ρ.iv 21) :: ((ρ.iv 22) :: ((ρ.iv 23) :: ((ρ.fn 1000 ((1 : Int) :: [])) :: ((ρ.fn 1001 ((1 : Int) :: [])) :: ((if (ρ.fb 1002 ((1 : Int) :: [])) = true then (1 : Int) else (0 : Int)) :: [])))))))) = (0 : Int))) = true) ∧ ((decide ((0 : Int) < (if ((decide ((0 : Int) < (ρ.iv 157797374496499192))) && (ρ.bv 782741206561574860)) = true then ((ρ.iv 157797374496499192) - (1 : Int)) else (ρ.iv 157797374496499192)))) = true ∧ True → (decide ((1 : Int) < (ρ.iv 4))) = true) ∧ ((decide ((0 : Int) < (if ((decide ((0 : Int) < (ρ.iv 157797374496499192))) && (ρ.bv 782741206561574860)) = true then ((ρ.iv 157797374496499192) - (1 : Int)) else (ρ.iv 157797374496499192)))) = true ∧ True → (decide ((ρ.fn 88 ((ρ.iv 20) :: ((ρ.iv 21) :: ((ρ.iv 22) :: ((ρ.iv 23) :: ((ρ.fn 1000 ((1 : Int) :: [])) :: ((ρ.fn 1001 ((1 : Int) :: [])) :: ((if (ρ.fb 1002 ((1 : Int) :: [])) = true then (1 : Int) else (0 : Int)) :: [])))))))) = (0 : Int))) = true) ∧ (True → (decide ((2 : Int) < (ρ.iv 4))) = true) ∧ (True → (decide ((ρ.fn 88 ((ρ.iv 20) :: ((ρ.iv 21) :: ((ρ.iv 22) :: ((ρ.iv 23) :: ((ρ.fn 1000 ((2 : Int) :: [])) :: ((ρ.fn 1001 ((2 : Int) :: [])) :: ((if (ρ.fb 1002 ((2 : Int) :: [])) = true then (1 : Int) else (0 : Int)) :: [])))))))) = (0 : Int))) = true) ∧ ((decide ((0 : Int) < (ρ.iv 1265140037774112887))) = true ∧ True → (decide ((2 : Int) < (ρ.iv 4))) = true) ∧ ((decide ((0 : Int) < (ρ.iv 1265140037774112887))) = true ∧ True → (decide ((ρ.fn 88 ((ρ.iv 20) :: ((ρ.iv 21) :: ((ρ.iv 22) :: ((ρ.iv 23) :: ((ρ.fn 1000 ((2 : Int) :: [])) :: ((ρ.fn 1001 ((2 : Int) :: [])) :: ((if (ρ.fb 1002 ((2 : Int) :: [])) = true then (1 : Int) else (0 : Int)) :: [])))))))) = (0 : Int))) = true) ∧ (True → (decide ((3 : Int) < (ρ.iv 4))) = true) ∧ (True → (decide ((ρ.fn 88 ((ρ.iv 20) :: ((ρ.iv 21) :: ((ρ.iv 22) :: ((ρ.iv 23) :: ((ρ.fn 1000 ((3 : Int) :: [])) :: ((ρ.fn 1001 ((3 : Int) :: [])) :: ((if (ρ.fb 1002 ((3 : Int) :: [])) = true then (1 : Int) else (0 : Int)) :: [])))))))) = (0 : Int))) = true) ∧ ((decide ((0 : Int) < (if ((decide ((0 : Int) < (ρ.iv 1265140037774112887))) && (ρ.bv 1613713519806856232)) = true then ((ρ.iv 1265140037774112887) - (1 : Int)) else (ρ.iv 1265140037774112887)))) = true ∧ True → (decide ((3 : Int) < (ρ.iv 4))) = true) ∧ ((decide ((0 : Int) < (if ((decide ((0 : Int) < (ρ.iv 1265140037774112887))) && (ρ.bv 1613713519806856232)) = true then ((ρ.iv 1265140037774112887) - (1 : Int)) else (ρ.iv 1265140037774112887)))) = true ∧ True → (decide ((ρ.fn 88 ((ρ.iv 20) :: ((ρ.iv 21) :: ((ρ.iv 22) :: ((ρ.iv 23) :: ((ρ.fn 1000 ((3 : Int) :: [])) :: ((ρ.fn 1001 ((3 : Int) :: [])) :: ((if (ρ.fb 1002 ((3 : Int) :: [])) = true then (1 : Int) else (0 : Int)) :: [])))))))) = (0 : Int))) = true) ∧ True) := by kernel_rfl
theorem sR4_says2 (ρ : Env) : saysL ρ sR4V2 = (True ∧
  ρ.iv 157797374496499192 = ((ρ.iv 15) - (ρ.fn 84 ((0 : Int) :: ((ρ.iv 20) :: ((ρ.iv 21) :: ((ρ.iv 13) :: [])))))) ∧
  True ∧
  True ∧
  ρ.iv 9375996378674662 = (ρ.fn 83 ((ρ.iv 20) :: ((ρ.iv 21) :: ((ρ.fn 1000 ((0 : Int) :: [])) :: ((if (ρ.fb 1002 ((0 : Int) :: [])) = true then (1 : Int) else (0 : Int)) :: ((ρ.iv 13) :: [])))))) ∧
  True ∧
  True ∧
  ρ.bv 782741206561574860 = (decide ((ρ.iv 9375996378674662) < (ρ.fn 83 ((ρ.iv 20) :: ((ρ.iv 21) :: ((ρ.fn 1000 ((0 : Int) :: [])) :: ((if (ρ.fb 1002 ((0 : Int) :: [])) = true then (1 : Int) else (0 : Int)) :: (((ρ.iv 13) + (1 : Int)) :: [])))))))) ∧
  True ∧
  True ∧
  ρ.iv 171910849147666243 = (ρ.fn 83 ((ρ.iv 20) :: ((ρ.iv 21) :: ((ρ.fn 1000 ((1 : Int) :: [])) :: ((if (ρ.fb 1002 ((1 : Int) :: [])) = true then (1 : Int) else (0 : Int)) :: ((ρ.iv 13) :: [])))))) ∧
  True ∧
  True ∧
  ρ.bv 1198227363184215546 = (decide ((ρ.iv 171910849147666243) < (ρ.fn 83 ((ρ.iv 20) :: ((ρ.iv 21) :: ((ρ.fn 1000 ((1 : Int) :: [])) :: ((if (ρ.fb 1002 ((1 : Int) :: [])) = true then (1 : Int) else (0 : Int)) :: (((ρ.iv 13) + (1 : Int)) :: [])))))))) ∧
  ρ.iv 265348424056978681 = ((if ((decide ((0 : Int) < (ρ.iv 157797374496499192))) && (ρ.bv 782741206561574860)) = true then ((ρ.iv 157797374496499192) - (1 : Int)) else (ρ.iv 157797374496499192)) - (1 : Int)) ∧
  ρ.iv 1265140037774112887 = (if ((decide ((0 : Int) < (if ((decide ((0 : Int) < (ρ.iv 157797374496499192))) && (ρ.bv 782741206561574860)) = true then ((ρ.iv 157797374496499192) - (1 : Int)) else (ρ.iv 157797374496499192)))) && (ρ.bv 1198227363184215546)) = true then (ρ.iv 265348424056978681) else (if ((decide ((0 : Int) < (ρ.iv 157797374496499192))) && (ρ.bv 782741206561574860)) = true then ((ρ.iv 157797374496499192) - (1 : Int)) else (ρ.iv 157797374496499192))) ∧
  ρ.iv 1293947935901521602 = (if ((decide ((0 : Int) < (if ((decide ((0 : Int) < (ρ.iv 157797374496499192))) && (ρ.bv 782741206561574860)) = true then ((ρ.iv 157797374496499192) - (1 : Int)) else (ρ.iv 157797374496499192)))) && (ρ.bv 1198227363184215546)) = true then ((ρ.iv 171910849147666243) + (1 : Int)) else (ρ.iv 171910849147666243)) ∧
  True ∧
  True ∧
  ρ.iv 334445701916657824 = (ρ.fn 83 ((ρ.iv 20) :: ((ρ.iv 21) :: ((ρ.fn 1000 ((2 : Int) :: [])) :: ((if (ρ.fb 1002 ((2 : Int) :: [])) = true then (1 : Int) else (0 : Int)) :: ((ρ.iv 13) :: [])))))) ∧
  True ∧
  True ∧
  ρ.bv 1613713519806856232 = (decide ((ρ.iv 334445701916657824) < (ρ.fn 83 ((ρ.iv 20) :: ((ρ.iv 21) :: ((ρ.fn 1000 ((2 : Int) :: [])) :: ((if (ρ.fb 1002 ((2 : Int) :: [])) = true then (1 : Int) else (0 : Int)) :: (((ρ.iv 13) + (1 : Int)) :: [])))))))) ∧
  True ∧
  True ∧
  ρ.iv 496980554685649405 = (ρ.fn 83 ((ρ.iv 20) :: ((ρ.iv 21) :: ((ρ.fn 1000 ((3 : Int) :: [])) :: ((if (ρ.fb 1002 ((3 : Int) :: [])) = true then (1 : Int) else (0 : Int)) :: ((ρ.iv 13) :: [])))))) ∧
  True ∧
  True ∧
  ρ.bv 2029199676429496918 = (decide ((ρ.iv 496980554685649405) < (ρ.fn 83 ((ρ.iv 20) :: ((ρ.iv 21) :: ((ρ.fn 1000 ((3 : Int) :: [])) :: ((if (ρ.fb 1002 ((3 : Int) :: [])) = true then (1 : Int) else (0 : Int)) :: (((ρ.iv 13) + (1 : Int)) :: [])))))))) ∧
  ρ.iv 2010879829745906254 = ((if ((decide ((0 : Int) < (ρ.iv 1265140037774112887))) && (ρ.bv 1613713519806856232)) = true then ((ρ.iv 1265140037774112887) - (1 : Int)) else (ρ.iv 1265140037774112887)) - (1 : Int)) ∧
  ρ.iv 1075875825768588109 = (if ((decide ((0 : Int) < (if ((decide ((0 : Int) < (ρ.iv 1265140037774112887))) && (ρ.bv 1613713519806856232)) = true then ((ρ.iv 1265140037774112887) - (1 : Int)) else (ρ.iv 1265140037774112887)))) && (ρ.bv 2029199676429496918)) = true then (ρ.iv 2010879829745906254) else (if ((decide ((0 : Int) < (ρ.iv 1265140037774112887))) && (ρ.bv 1613713519806856232)) = true then ((ρ.iv 1265140037774112887) - (1 : Int)) else (ρ.iv 1265140037774112887))) ∧
  ρ.iv 468382183674647108 = (if ((decide ((0 : Int) < (if ((decide ((0 : Int) < (ρ.iv 1265140037774112887))) && (ρ.bv 1613713519806856232)) = true then ((ρ.iv 1265140037774112887) - (1 : Int)) else (ρ.iv 1265140037774112887)))) && (ρ.bv 2029199676429496918)) = true then ((ρ.iv 496980554685649405) + (1 : Int)) else (ρ.iv 496980554685649405)) ∧
  True) := by kernel_rfl
end Go.Proofs.Ytdfpenjhpemokaa.Sx
/-
  R.Spread: what it answers, of one to four surfaces.
-/
namespace Go.Proofs.Ytdfpenjhpemokaa.Sx
open Go.RowKit
structure ShR (g : GD) (t r s c sum : Int) (ρ : Env) : Prop where
  b : ShB g t r s c sum ρ
  s15 : ρ.iv 15 = pclipS g t r sum
  low : -t ≤ ρ.iv 13
  high : ρ.iv 13 ≤ t
  above : ∀ x, ρ.iv 13 < x → x ≤ t → pclipS g t r sum < ptotS g t r x g.n
theorem ShR.same {g : GD} {t r s c sum : Int} {ρ ρ' : Env} (h : ShR g t r s c sum ρ) (hs : Same ρ ρ' [] []) : ShR g t r s c sum ρ' ∧ (ρ'.iv 13 + t).toNat = (ρ.iv 13 + t).toNat := by
  have e := iv_same hs (n := 13) rfl
  have e' := iv_same hs (n := 15) rfl
  exact ⟨⟨h.b.same hs, by rw [e']; exact h.s15, by rw [e]; exact h.low, by rw [e]; exact h.high, by rw [e]; exact h.above⟩, by rw [e]⟩
theorem ShR.lev {g : GD} {t r s c sum : Int} {ρ : Env} (h : ShR g t r s c sum ρ) (ht : 0 ≤ t) (he : ρ.iv 13 = -t ∨ ptotS g t r (ρ.iv 13) g.n ≤ pclipS g t r sum) : plvl g t r sum = ρ.iv 13 := by
  refine plev_eq (fun x y hxy => ptotS_mono g t r hxy g.n) ht h.low h.high he ?_
  by_cases hl : ρ.iv 13 = t
  · exact .inl hl
  · exact .inr (h.above _ (by omega) (by have := h.high; omega))
theorem sR_sum {g : GD} {ρ : Env} (h : Std shF noB (fun _ => g) ρ) {w0 : World} (o : g.ok w0) (hk : g.ks = [true, true, false]) : HOK Try.prog ρ sRSum :=
  orSum_ok (sT_sum h) (total_ok h (fun _ => o) (fun _ => hk) fun g t r s c x w hk o hp hx => refTotal g hk t r s c x w o hp hx)
set_option maxRecDepth 100000 in
set_option maxHeartbeats 1000000 in
theorem refSpread1 (g : GD) (hk : g.ks = [true, true, false]) (hn : g.n = 1) (t r s c x : Int) (w : World) (o : g.ok w) (hps : pspreadMay g t r s c = 0) (bx : B64 x) :
    Calls Try.prog 89 #[.agg #[.int .i64 t, .int .i64 r, .int .i64 s, .int .i64 c], .slice g.A g.n g.c, .int .i64 x] w fun e w' => (∃ v, e = .returned v ∧ (fun v w' => NewList 3 w.heap.size w' (psprL g t r x) v) v w') ∧ Below w.heap.size w w' := by
  unfold B64 at bx
  obtain ⟨⟨a1, a2, a3, a4, a5, a6, a7, a8⟩, b1, b2, b3⟩ := psm_all _ hps
  have hcl : -4000 ≤ pclipS g t r x ∧ pclipS g t r x ≤ 4000 := by
    have u1 := ptotS_bd4 hps (-t)
    have u2 := ptotS_bd4 hps t
    unfold pclipS
    omega
  obtain ⟨ρ0, hj⟩ := Jm.start shF noB (fun _ => g) (shM g t r s c x) (fun _ => false)
  have h0 := hj.shb
  have hG : ∀ k : Nat, ((fun _ => g) k).ok w := fun _ => o
  have hm := hj.mem (w := w) hG
  obtain ⟨s1, s2⟩ := h0.std.osl hG (k := 0) (sh := [.int .i64 (-9223372036854775808) 9223372036854775807, .int .i64 (-9223372036854775808) 9223372036854775807, .bool]) (by show g.ks.map ckOf = _; rw [hk]; rfl) (by show g.ks.length ≤ 100; rw [hk]; decide) (e := .v 4) (lo := 1) (hi := 1) h0.l4 (by decide) (by show (1 : Int) ≤ g.n; omega) (by show (g.n : Int) ≤ 1; omega) (· < 0) ⟨fun _ => 0, fun _ => 0, fun _ => 0⟩
  clear hj
  have key := loop1_new (P := Try.prog) (cfg := cfgK sRSum sR1Keeps 50 12) Try.func89 rfl (k := 3) (i := 0) (n := 10) (by decide +kernel) (by kernel_rfl) (args := sR1Args) (H := []) (nx := 0) sR1_ran0 sR1_defs0 sR1_no0 sR1_ran1 sR1_defs1 sR1_no1 sR1_ran2 sR1_defs2 sR1_no2 w (R := fun v w' => NewList 3 w.heap.size w' (psprL g t r x) v) (ShB g t r s c x) (ShR g t r s c x) (fun ρ => ShR g t r s c x ρ ∧ (ρ.iv 13 = -t ∨ ptotS g t r (ρ.iv 13) g.n ≤ pclipS g t r x)) (fun ρ => (ρ.iv 13 + t).toNat)
    (fun ρ h => ⟨h.std.et, sR_sum h.std o hk⟩) (fun ρ h => ⟨h.b.std.et, sR_sum h.b.std o hk⟩) (fun ρ ρ' h hs => h.same hs) (fun ρ ρ' h hs => h.same hs) (fun ρ h => h.1) (fun ρ ρ' h hs => ⟨(h.1.same hs).1, by rw [iv_same hs (n := 13) rfl]; exact h.2⟩) (by kernel_rfl)
    (fun ρ h => by
      have e20 : ρ.iv 20 = t := h.e20
      have e21 : ρ.iv 21 = r := h.e21
      have e22 : ρ.iv 22 = s := h.e22
      have e23 : ρ.iv 23 = c := h.e23
      have e24 := h.e24
      have h4 := h.l4
      refine List.forall_mem_cons.2 ⟨?_, List.forall_mem_cons.2 ⟨?_, List.forall_mem_cons.2 ⟨?_, List.forall_mem_cons.2 ⟨?_, List.forall_mem_cons.2 ⟨?_, List.forall_mem_cons.2 ⟨?_, fun _ h => nomatch h⟩⟩⟩⟩⟩⟩
      · exact fit_of (z := ρ.iv 20) rfl (by show (1 : Int) ≤ ρ.iv 20; omega) (by show ρ.iv 20 ≤ 1000; omega)
      · exact fit_of (z := ρ.iv 21) rfl (by show (1 : Int) ≤ ρ.iv 21; omega) (by show ρ.iv 21 ≤ 1000; omega)
      · exact fit_of (z := ρ.iv 22) rfl (by show (0 : Int) ≤ ρ.iv 22; omega) (by show ρ.iv 22 ≤ 1000; omega)
      · exact fit_of (z := ρ.iv 23) rfl (by show (1 : Int) ≤ ρ.iv 23; omega) (by show ρ.iv 23 ≤ 10; omega)
      · exact fit_of (z := ρ.iv 4) rfl (by show (1 : Int) ≤ ρ.iv 4; omega) (by show ρ.iv 4 ≤ 1; omega)
      · exact fit_of (z := ρ.iv 24) rfl (by show (-9223372036854775808 : Int) ≤ ρ.iv 24; omega) (by show ρ.iv 24 ≤ 9223372036854775807; omega))
    (fun ρ h => by
      have e20 : ρ.iv 20 = t := h.b.e20
      have e21 : ρ.iv 21 = r := h.b.e21
      have e22 : ρ.iv 22 = s := h.b.e22
      have e23 : ρ.iv 23 = c := h.b.e23
      have e24 := h.b.e24
      have h4 := h.b.l4
      have h5 := h.low
      have h6 := h.high
      have h7 := h.s15
      refine List.forall_mem_cons.2 ⟨?_, List.forall_mem_cons.2 ⟨?_, List.forall_mem_cons.2 ⟨?_, List.forall_mem_cons.2 ⟨?_, List.forall_mem_cons.2 ⟨?_, List.forall_mem_cons.2 ⟨?_, List.forall_mem_cons.2 ⟨?_, fun _ h => nomatch h⟩⟩⟩⟩⟩⟩⟩
      · exact fit_of (z := ρ.iv 13) rfl (by show (-1000 : Int) ≤ ρ.iv 13; omega) (by show ρ.iv 13 ≤ 1000; omega)
      · exact fit_of (z := ρ.iv 4) rfl (by show (1 : Int) ≤ ρ.iv 4; omega) (by show ρ.iv 4 ≤ 1; omega)
      · exact fit_of (z := ρ.iv 15) rfl (by show (-4000 : Int) ≤ ρ.iv 15; omega) (by show ρ.iv 15 ≤ 4000; omega)
      · exact fit_of (z := ρ.iv 20) rfl (by show (1 : Int) ≤ ρ.iv 20; omega) (by show ρ.iv 20 ≤ 1000; omega)
      · exact fit_of (z := ρ.iv 21) rfl (by show (1 : Int) ≤ ρ.iv 21; omega) (by show ρ.iv 21 ≤ 1000; omega)
      · exact fit_of (z := ρ.iv 22) rfl (by show (0 : Int) ≤ ρ.iv 22; omega) (by show ρ.iv 22 ≤ 1000; omega)
      · exact fit_of (z := ρ.iv 23) rfl (by show (1 : Int) ≤ ρ.iv 23; omega) (by show ρ.iv 23 ≤ 10; omega))
    (fun ρ h hv => Eq.mpr (sR1_w0 ρ) (by
      refine ⟨fun _ => decide_eq_true ?_, trivial⟩
      rw [h.e20, h.e21, h.e22, h.e23, h.std.f rfl]
      exact hps))
    (fun ρ h hv => Eq.mpr (sR1_w1 ρ) (by
      refine ⟨fun _ => decide_eq_true ?_, trivial⟩
      rw [h.b.e20, h.b.e21, h.b.e22, h.b.e23, h.b.std.f rfl]
      exact hps))
    (fun ρ h hv => Eq.mpr (sR1_w2 ρ) (by
      have h1b := h.1.b
      have e20 : ρ.iv 20 = t := h.1.b.e20
      have e21 : ρ.iv 21 = r := h.1.b.e21
      have e22 : ρ.iv 22 = s := h.1.b.e22
      have e23 : ρ.iv 23 = c := h.1.b.e23
      have e24 := h.1.b.e24
      have h4 := h.1.b.l4
      have h87 : decide (ρ.fn 87 [0, ρ.iv 20, ρ.iv 21, ρ.iv 22, ρ.iv 23] = 0) = true := decide_eq_true (by rw [e20, e21, e22, e23, h1b.std.f rfl]; exact hps)
      have l0 : decide ((0 : Int) < ρ.iv 4) = true := decide_eq_true (by omega)
      have h88_0 : decide (ρ.fn 88 [ρ.iv 20, ρ.iv 21, ρ.iv 22, ρ.iv 23, ρ.fn 1000 [0], ρ.fn 1001 [0], if ρ.fb 1002 [0] = true then 1 else 0] = 0) = true := decide_eq_true (by
        have u0 : ρ.fn 1000 [0] = g.fi 0 0 := h1b.std.e (k := 0) (j := 0) rfl _
        have u1 : ρ.fn 1001 [0] = g.fi 0 1 := h1b.std.e (k := 0) (j := 1) rfl _
        have u2 : ρ.fb 1002 [0] = g.fb 0 2 := h1b.std.eb (k := 0) (j := 2) rfl _
        rw [e20, e21, e22, e23, u0, u1, u2, h1b.std.f rfl]
        show pservo _ _ _ _ _ _ (decide _) = 0
        rw [dec01]
        exact b3 0 (by omega))
      (repeat' (first | exact trivial | refine And.intro ?_ ?_))
      all_goals (intro _; first | exact h87 | exact l0 | exact h88_0)))
    (by
      refine List.forall_mem_cons.2 ⟨?_, fun _ h => nomatch h⟩
      · intro ρ h hv hp
        refine .inr ⟨rfl, rfl, ?_⟩
        obtain ⟨-, k1, k2, -⟩ := Eq.mp (sR1_says0 ρ) hv
        have e1 : ρ.fn 84 [0, t, r, 0 - t] = ptotS g t r (-t) g.n := by rw [h.std.f rfl, Int.zero_sub]; rfl
        have e2 : ρ.fn 84 [0, t, r, t] = ptotS g t r t g.n := by rw [h.std.f rfl]; rfl
        rw [h.e20, h.e21, e1] at k1
        rw [h.e20, h.e21, h.e24, e2, k1] at k2
        exact ⟨⟨h.std.sub _, h.l4, h.e20, h.e21, h.e22, h.e23, h.e24⟩, k2, by show -t ≤ ρ.iv 20; rw [h.e20]; omega, by show ρ.iv 20 ≤ t; rw [h.e20]; omega, fun z h1 h2 => by have h1 : ρ.iv 20 < z := h1; rw [h.e20] at h1; omega⟩)
    (by
      refine List.forall_mem_cons.2 ⟨?_, List.forall_mem_cons.2 ⟨?_, fun _ h => nomatch h⟩⟩
      · intro ρ h hv hp
        obtain ⟨c0, _⟩ := Eq.mp (sR1_1_pc0 ρ) hp
        refine .inl ⟨rfl, rfl, ?_, ?_⟩
        · rw [h.b.e20, h.b.e21, h.s15] at c0
          have e84 : ρ.fn 84 [0, t, r, ρ.iv 13] = ptotS g t r (ρ.iv 13) g.n := by rw [h.b.std.f rfl]; rfl
          rw [e84, Bool.and_eq_true, decide_eq_true_eq, decide_eq_true_eq] at c0
          have h5 := h.low
          have h6 := h.high
          refine ⟨⟨h.b.std.sub _, h.b.l4, h.b.e20, h.b.e21, h.b.e22, h.b.e23, h.b.e24⟩, h.s15, by show -t ≤ ρ.iv 13 - 1; omega, by show ρ.iv 13 - 1 ≤ t; omega, fun z h1 h2 => ?_⟩
          have h1 : ρ.iv 13 - 1 < z := h1
          by_cases hz : z = ρ.iv 13
          · rw [hz]; exact c0.2
          · exact h.above z (by omega) h2
        · rw [h.b.e20, Bool.and_eq_true, decide_eq_true_eq] at c0
          show (ρ.iv 13 - 1 + t).toNat < (ρ.iv 13 + t).toNat
          have h5 := h.low
          omega
      · intro ρ h hv hp
        obtain ⟨c0, _⟩ := Eq.mp (sR1_1_pc1 ρ) hp
        refine .inr (.inl ⟨rfl, rfl, ?_⟩)
        rw [h.b.e20, h.b.e21, h.s15] at c0
        have e84 : ρ.fn 84 [0, t, r, ρ.iv 13] = ptotS g t r (ρ.iv 13) g.n := by rw [h.b.std.f rfl]; rfl
        rw [e84, Bool.not_eq_true', ← Bool.not_eq_true, Bool.and_eq_true, decide_eq_true_eq, decide_eq_true_eq] at c0
        have h5 := h.low
        exact ⟨⟨⟨h.b.std.sub _, h.b.l4, h.b.e20, h.b.e21, h.b.e22, h.b.e23, h.b.e24⟩, h.s15, h.low, h.high, h.above⟩, by show ρ.iv 13 = -t ∨ ptotS g t r (ρ.iv 13) g.n ≤ pclipS g t r x; omega⟩)
    (by
      refine List.forall_mem_cons.2 ⟨?_, fun _ h => nomatch h⟩
      · intro ρ h hv hp
        refine ⟨.inr rfl, List.forall_mem_cons.2 ⟨?_, fun _ h => nomatch h⟩, [.sl 2 0 1 none], by kernel_rfl, fun b w' tm hr => ?_⟩
        all_goals (
          have e20 : ρ.iv 20 = t := h.1.b.e20
          have e21 : ρ.iv 21 = r := h.1.b.e21
          have e22 : ρ.iv 22 = s := h.1.b.e22
          have e23 : ρ.iv 23 = c := h.1.b.e23
          have e24 := h.1.b.e24
          have h4 := h.1.b.l4
          have hlev := h.1.lev (by omega) h.2
          have e84 : ρ.fn 84 [0, t, r, ρ.iv 13] = ptotS g t r (plvl g t r x) g.n := by rw [h.1.b.std.f rfl, hlev]; rfl
          have u0 : ρ.fn 1000 [0] = g.fi 0 0 := h.1.b.std.e (k := 0) (j := 0) rfl _
          have v0 : ρ.fb 1002 [0] = g.fb 0 2 := h.1.b.std.eb (k := 0) (j := 2) rfl _
          have A0 : ρ.fn 83 [t, r, g.fi 0 0, if g.fb 0 2 = true then 1 else 0, ρ.iv 13] = ptk t r (g.fi 0 0) (g.fb 0 2) (plvl g t r x) := by rw [h.1.b.std.f rfl, hlev]; show ptk _ _ _ (decide _) _ = _; rw [dec01]
          have B0 : ρ.fn 83 [t, r, g.fi 0 0, if g.fb 0 2 = true then 1 else 0, ρ.iv 13 + 1] = ptk t r (g.fi 0 0) (g.fb 0 2) (plvl g t r x + 1) := by rw [h.1.b.std.f rfl, hlev]; show ptk _ _ _ (decide _) _ = _; rw [dec01]
          have s15 := h.1.s15
          obtain ⟨-, k1, -, -, k4, -, -, k7, -⟩ := Eq.mp (sR1_says2 ρ) hv
          simp only [e20, e21, s15, e84, u0, v0, A0, B0] at k1 k4 k7
          have hc0 : E.i ρ (.ite (.bin .and (.bin .lt (.c 0) (.v 157797374496499192)) (.bv 782741206561574860)) (.bin .add (.v 9375996378674662) (.c 1)) (.v 9375996378674662)) = pspr g t r x 0 := by
            simp only [E.i, E.b, k1, k4, k7, pspr, pleft, Bool.and_eq_true, decide_eq_true_eq]
            try (first | rfl | (congr; done) | ((repeat' split) <;> omega)))
        · have := pspr_bd (g := g) x (b3 0 (by omega))
          exact fit_of (z := pspr g t r x 0) hc0 (by show (-1000 : Int) ≤ _; omega) (by show _ ≤ (1001 : Int); omega)
        · have eL : psprL g t r x = [pspr g t r x 0] := by
            unfold psprL
            rw [hn]
            rfl
          rw [eL]
          refine newList_grow (cells := [.int .i64 ⟨.v 900, -1000, 1001⟩]) hr.heap (m := 2) (by kernel_rfl) rfl rfl ?_
          intro i v z h1 h2
          match i, h1, h2 with
          | 0, h1, h2 => cases h1; cases h2; show Value.int .i64 (E.i ρ (.ite (.bin .and (.bin .lt (.c 0) (.v 157797374496499192)) (.bv 782741206561574860)) (.bin .add (.v 9375996378674662) (.c 1)) (.v 9375996378674662))) = _; rw [hc0]
          | i + 1, h1, h2 => cases h1)
    h0 ⟨fun _ => 0, fun _ => 0, fun _ => 0⟩ (noHeap _ _ _ _) (by
          refine ⟨⟨⟨?_, ?_⟩, ⟨?_, ?_⟩, ⟨?_, ?_⟩, ⟨?_, ?_⟩, trivial⟩, s1, ⟨?_, ?_⟩, trivial⟩
          all_goals simp only [E.i, h0.e20, h0.e21, h0.e22, h0.e23, h0.e24]
          all_goals omega) hm
  have e : SV.denL ρ0 ⟨fun _ => 0, fun _ => 0, fun _ => 0⟩ sR1Args = [.agg #[.int .i64 t, .int .i64 r, .int .i64 s, .int .i64 c], .slice g.A g.n g.c, .int .i64 x] := by
    unfold sR1Args
    simp only [SV.denL]
    simp only [den_agg, SV.denL, den_int, E.i, h0.e20, h0.e21, h0.e22, h0.e23, h0.e24]
    rw [s2]
  rw [e] at key
  exact key
set_option maxRecDepth 100000 in
set_option maxHeartbeats 1000000 in
theorem refSpread2 (g : GD) (hk : g.ks = [true, true, false]) (hn : g.n = 2) (t r s c x : Int) (w : World) (o : g.ok w) (hps : pspreadMay g t r s c = 0) (bx : B64 x) :
    Calls Try.prog 89 #[.agg #[.int .i64 t, .int .i64 r, .int .i64 s, .int .i64 c], .slice g.A g.n g.c, .int .i64 x] w fun e w' => (∃ v, e = .returned v ∧ (fun v w' => NewList 3 w.heap.size w' (psprL g t r x) v) v w') ∧ Below w.heap.size w w' := by
  unfold B64 at bx
  obtain ⟨⟨a1, a2, a3, a4, a5, a6, a7, a8⟩, b1, b2, b3⟩ := psm_all _ hps
  have hcl : -4000 ≤ pclipS g t r x ∧ pclipS g t r x ≤ 4000 := by
    have u1 := ptotS_bd4 hps (-t)
    have u2 := ptotS_bd4 hps t
    unfold pclipS
    omega
  obtain ⟨ρ0, hj⟩ := Jm.start shF noB (fun _ => g) (shM g t r s c x) (fun _ => false)
  have h0 := hj.shb
  have hG : ∀ k : Nat, ((fun _ => g) k).ok w := fun _ => o
  have hm := hj.mem (w := w) hG
  obtain ⟨s1, s2⟩ := h0.std.osl hG (k := 0) (sh := [.int .i64 (-9223372036854775808) 9223372036854775807, .int .i64 (-9223372036854775808) 9223372036854775807, .bool]) (by show g.ks.map ckOf = _; rw [hk]; rfl) (by show g.ks.length ≤ 100; rw [hk]; decide) (e := .v 4) (lo := 2) (hi := 2) h0.l4 (by decide) (by show (2 : Int) ≤ g.n; omega) (by show (g.n : Int) ≤ 2; omega) (· < 0) ⟨fun _ => 0, fun _ => 0, fun _ => 0⟩
  clear hj
  have key := loop1_new (P := Try.prog) (cfg := cfgK sRSum sR2Keeps 50 12) Try.func89 rfl (k := 3) (i := 0) (n := 10) (by decide +kernel) (by kernel_rfl) (args := sR2Args) (H := []) (nx := 0) sR2_ran0 sR2_defs0 sR2_no0 sR2_ran1 sR2_defs1 sR2_no1 sR2_ran2 sR2_defs2 sR2_no2 w (R := fun v w' => NewList 3 w.heap.size w' (psprL g t r x) v) (ShB g t r s c x) (ShR g t r s c x) (fun ρ => ShR g t r s c x ρ ∧ (ρ.iv 13 = -t ∨ ptotS g t r (ρ.iv 13) g.n ≤ pclipS g t r x)) (fun ρ => (ρ.iv 13 + t).toNat)
    (fun ρ h => ⟨h.std.et, sR_sum h.std o hk⟩) (fun ρ h => ⟨h.b.std.et, sR_sum h.b.std o hk⟩) (fun ρ ρ' h hs => h.same hs) (fun ρ ρ' h hs => h.same hs) (fun ρ h => h.1) (fun ρ ρ' h hs => ⟨(h.1.same hs).1, by rw [iv_same hs (n := 13) rfl]; exact h.2⟩) (by kernel_rfl)
    (fun ρ h => by
      have e20 : ρ.iv 20 = t := h.e20
      have e21 : ρ.iv 21 = r := h.e21
      have e22 : ρ.iv 22 = s := h.e22
      have e23 : ρ.iv 23 = c := h.e23
      have e24 := h.e24
      have h4 := h.l4
      refine List.forall_mem_cons.2 ⟨?_, List.forall_mem_cons.2 ⟨?_, List.forall_mem_cons.2 ⟨?_, List.forall_mem_cons.2 ⟨?_, List.forall_mem_cons.2 ⟨?_, List.forall_mem_cons.2 ⟨?_, fun _ h => nomatch h⟩⟩⟩⟩⟩⟩
      · exact fit_of (z := ρ.iv 20) rfl (by show (1 : Int) ≤ ρ.iv 20; omega) (by show ρ.iv 20 ≤ 1000; omega)
      · exact fit_of (z := ρ.iv 21) rfl (by show (1 : Int) ≤ ρ.iv 21; omega) (by show ρ.iv 21 ≤ 1000; omega)
      · exact fit_of (z := ρ.iv 22) rfl (by show (0 : Int) ≤ ρ.iv 22; omega) (by show ρ.iv 22 ≤ 1000; omega)
      · exact fit_of (z := ρ.iv 23) rfl (by show (1 : Int) ≤ ρ.iv 23; omega) (by show ρ.iv 23 ≤ 10; omega)
      · exact fit_of (z := ρ.iv 4) rfl (by show (2 : Int) ≤ ρ.iv 4; omega) (by show ρ.iv 4 ≤ 2; omega)
      · exact fit_of (z := ρ.iv 24) rfl (by show (-9223372036854775808 : Int) ≤ ρ.iv 24; omega) (by show ρ.iv 24 ≤ 9223372036854775807; omega))
    (fun ρ h => by
      have e20 : ρ.iv 20 = t := h.b.e20
      have e21 : ρ.iv 21 = r := h.b.e21
      have e22 : ρ.iv 22 = s := h.b.e22
      have e23 : ρ.iv 23 = c := h.b.e23
      have e24 := h.b.e24
      have h4 := h.b.l4
      have h5 := h.low
      have h6 := h.high
      have h7 := h.s15
      refine List.forall_mem_cons.2 ⟨?_, List.forall_mem_cons.2 ⟨?_, List.forall_mem_cons.2 ⟨?_, List.forall_mem_cons.2 ⟨?_, List.forall_mem_cons.2 ⟨?_, List.forall_mem_cons.2 ⟨?_, List.forall_mem_cons.2 ⟨?_, fun _ h => nomatch h⟩⟩⟩⟩⟩⟩⟩
      · exact fit_of (z := ρ.iv 13) rfl (by show (-1000 : Int) ≤ ρ.iv 13; omega) (by show ρ.iv 13 ≤ 1000; omega)
      · exact fit_of (z := ρ.iv 4) rfl (by show (2 : Int) ≤ ρ.iv 4; omega) (by show ρ.iv 4 ≤ 2; omega)
      · exact fit_of (z := ρ.iv 15) rfl (by show (-4000 : Int) ≤ ρ.iv 15; omega) (by show ρ.iv 15 ≤ 4000; omega)
      · exact fit_of (z := ρ.iv 20) rfl (by show (1 : Int) ≤ ρ.iv 20; omega) (by show ρ.iv 20 ≤ 1000; omega)
      · exact fit_of (z := ρ.iv 21) rfl (by show (1 : Int) ≤ ρ.iv 21; omega) (by show ρ.iv 21 ≤ 1000; omega)
      · exact fit_of (z := ρ.iv 22) rfl (by show (0 : Int) ≤ ρ.iv 22; omega) (by show ρ.iv 22 ≤ 1000; omega)
      · exact fit_of (z := ρ.iv 23) rfl (by show (1 : Int) ≤ ρ.iv 23; omega) (by show ρ.iv 23 ≤ 10; omega))
    (fun ρ h hv => Eq.mpr (sR2_w0 ρ) (by
      refine ⟨fun _ => decide_eq_true ?_, trivial⟩
      rw [h.e20, h.e21, h.e22, h.e23, h.std.f rfl]
      exact hps))
    (fun ρ h hv => Eq.mpr (sR2_w1 ρ) (by
      refine ⟨fun _ => decide_eq_true ?_, trivial⟩
      rw [h.b.e20, h.b.e21, h.b.e22, h.b.e23, h.b.std.f rfl]
      exact hps))
    (fun ρ h hv => Eq.mpr (sR2_w2 ρ) (by
      have h1b := h.1.b
      have e20 : ρ.iv 20 = t := h.1.b.e20
      have e21 : ρ.iv 21 = r := h.1.b.e21
      have e22 : ρ.iv 22 = s := h.1.b.e22
      have e23 : ρ.iv 23 = c := h.1.b.e23
      have e24 := h.1.b.e24
      have h4 := h.1.b.l4
      have h87 : decide (ρ.fn 87 [0, ρ.iv 20, ρ.iv 21, ρ.iv 22, ρ.iv 23] = 0) = true := decide_eq_true (by rw [e20, e21, e22, e23, h1b.std.f rfl]; exact hps)
      have l0 : decide ((0 : Int) < ρ.iv 4) = true := decide_eq_true (by omega)
      have h88_0 : decide (ρ.fn 88 [ρ.iv 20, ρ.iv 21, ρ.iv 22, ρ.iv 23, ρ.fn 1000 [0], ρ.fn 1001 [0], if ρ.fb 1002 [0] = true then 1 else 0] = 0) = true := decide_eq_true (by
        have u0 : ρ.fn 1000 [0] = g.fi 0 0 := h1b.std.e (k := 0) (j := 0) rfl _
        have u1 : ρ.fn 1001 [0] = g.fi 0 1 := h1b.std.e (k := 0) (j := 1) rfl _
        have u2 : ρ.fb 1002 [0] = g.fb 0 2 := h1b.std.eb (k := 0) (j := 2) rfl _
        rw [e20, e21, e22, e23, u0, u1, u2, h1b.std.f rfl]
        show pservo _ _ _ _ _ _ (decide _) = 0
        rw [dec01]
        exact b3 0 (by omega))
      have l1 : decide ((1 : Int) < ρ.iv 4) = true := decide_eq_true (by omega)
      have h88_1 : decide (ρ.fn 88 [ρ.iv 20, ρ.iv 21, ρ.iv 22, ρ.iv 23, ρ.fn 1000 [1], ρ.fn 1001 [1], if ρ.fb 1002 [1] = true then 1 else 0] = 0) = true := decide_eq_true (by
        have u0 : ρ.fn 1000 [1] = g.fi 1 0 := h1b.std.e (k := 0) (j := 0) rfl _
        have u1 : ρ.fn 1001 [1] = g.fi 1 1 := h1b.std.e (k := 0) (j := 1) rfl _
        have u2 : ρ.fb 1002 [1] = g.fb 1 2 := h1b.std.eb (k := 0) (j := 2) rfl _
        rw [e20, e21, e22, e23, u0, u1, u2, h1b.std.f rfl]
        show pservo _ _ _ _ _ _ (decide _) = 0
        rw [dec01]
        exact b3 1 (by omega))
      (repeat' (first | exact trivial | refine And.intro ?_ ?_))
      all_goals (intro _; first | exact h87 | exact l0 | exact h88_0 | exact l1 | exact h88_1)))
    (by
      refine List.forall_mem_cons.2 ⟨?_, fun _ h => nomatch h⟩
      · intro ρ h hv hp
        refine .inr ⟨rfl, rfl, ?_⟩
        obtain ⟨-, k1, k2, -⟩ := Eq.mp (sR2_says0 ρ) hv
        have e1 : ρ.fn 84 [0, t, r, 0 - t] = ptotS g t r (-t) g.n := by rw [h.std.f rfl, Int.zero_sub]; rfl
        have e2 : ρ.fn 84 [0, t, r, t] = ptotS g t r t g.n := by rw [h.std.f rfl]; rfl
        rw [h.e20, h.e21, e1] at k1
        rw [h.e20, h.e21, h.e24, e2, k1] at k2
        exact ⟨⟨h.std.sub _, h.l4, h.e20, h.e21, h.e22, h.e23, h.e24⟩, k2, by show -t ≤ ρ.iv 20; rw [h.e20]; omega, by show ρ.iv 20 ≤ t; rw [h.e20]; omega, fun z h1 h2 => by have h1 : ρ.iv 20 < z := h1; rw [h.e20] at h1; omega⟩)
    (by
      refine List.forall_mem_cons.2 ⟨?_, List.forall_mem_cons.2 ⟨?_, fun _ h => nomatch h⟩⟩
      · intro ρ h hv hp
        obtain ⟨c0, _⟩ := Eq.mp (sR2_1_pc0 ρ) hp
        refine .inl ⟨rfl, rfl, ?_, ?_⟩
        · rw [h.b.e20, h.b.e21, h.s15] at c0
          have e84 : ρ.fn 84 [0, t, r, ρ.iv 13] = ptotS g t r (ρ.iv 13) g.n := by rw [h.b.std.f rfl]; rfl
          rw [e84, Bool.and_eq_true, decide_eq_true_eq, decide_eq_true_eq] at c0
          have h5 := h.low
          have h6 := h.high
          refine ⟨⟨h.b.std.sub _, h.b.l4, h.b.e20, h.b.e21, h.b.e22, h.b.e23, h.b.e24⟩, h.s15, by show -t ≤ ρ.iv 13 - 1; omega, by show ρ.iv 13 - 1 ≤ t; omega, fun z h1 h2 => ?_⟩
          have h1 : ρ.iv 13 - 1 < z := h1
          by_cases hz : z = ρ.iv 13
          · rw [hz]; exact c0.2
          · exact h.above z (by omega) h2
        · rw [h.b.e20, Bool.and_eq_true, decide_eq_true_eq] at c0
          show (ρ.iv 13 - 1 + t).toNat < (ρ.iv 13 + t).toNat
          have h5 := h.low
          omega
      · intro ρ h hv hp
        obtain ⟨c0, _⟩ := Eq.mp (sR2_1_pc1 ρ) hp
        refine .inr (.inl ⟨rfl, rfl, ?_⟩)
        rw [h.b.e20, h.b.e21, h.s15] at c0
        have e84 : ρ.fn 84 [0, t, r, ρ.iv 13] = ptotS g t r (ρ.iv 13) g.n := by rw [h.b.std.f rfl]; rfl
        rw [e84, Bool.not_eq_true', ← Bool.not_eq_true, Bool.and_eq_true, decide_eq_true_eq, decide_eq_true_eq] at c0
        have h5 := h.low
        exact ⟨⟨⟨h.b.std.sub _, h.b.l4, h.b.e20, h.b.e21, h.b.e22, h.b.e23, h.b.e24⟩, h.s15, h.low, h.high, h.above⟩, by show ρ.iv 13 = -t ∨ ptotS g t r (ρ.iv 13) g.n ≤ pclipS g t r x; omega⟩)
    (by
      refine List.forall_mem_cons.2 ⟨?_, fun _ h => nomatch h⟩
      · intro ρ h hv hp
        refine ⟨.inr rfl, List.forall_mem_cons.2 ⟨?_, List.forall_mem_cons.2 ⟨?_, fun _ h => nomatch h⟩⟩, [.sl 4 0 2 none], by kernel_rfl, fun b w' tm hr => ?_⟩
        all_goals (
          have e20 : ρ.iv 20 = t := h.1.b.e20
          have e21 : ρ.iv 21 = r := h.1.b.e21
          have e22 : ρ.iv 22 = s := h.1.b.e22
          have e23 : ρ.iv 23 = c := h.1.b.e23
          have e24 := h.1.b.e24
          have h4 := h.1.b.l4
          have hlev := h.1.lev (by omega) h.2
          have e84 : ρ.fn 84 [0, t, r, ρ.iv 13] = ptotS g t r (plvl g t r x) g.n := by rw [h.1.b.std.f rfl, hlev]; rfl
          have u0 : ρ.fn 1000 [0] = g.fi 0 0 := h.1.b.std.e (k := 0) (j := 0) rfl _
          have v0 : ρ.fb 1002 [0] = g.fb 0 2 := h.1.b.std.eb (k := 0) (j := 2) rfl _
          have A0 : ρ.fn 83 [t, r, g.fi 0 0, if g.fb 0 2 = true then 1 else 0, ρ.iv 13] = ptk t r (g.fi 0 0) (g.fb 0 2) (plvl g t r x) := by rw [h.1.b.std.f rfl, hlev]; show ptk _ _ _ (decide _) _ = _; rw [dec01]
          have B0 : ρ.fn 83 [t, r, g.fi 0 0, if g.fb 0 2 = true then 1 else 0, ρ.iv 13 + 1] = ptk t r (g.fi 0 0) (g.fb 0 2) (plvl g t r x + 1) := by rw [h.1.b.std.f rfl, hlev]; show ptk _ _ _ (decide _) _ = _; rw [dec01]
          have u1 : ρ.fn 1000 [1] = g.fi 1 0 := h.1.b.std.e (k := 0) (j := 0) rfl _
          have v1 : ρ.fb 1002 [1] = g.fb 1 2 := h.1.b.std.eb (k := 0) (j := 2) rfl _
          have A1 : ρ.fn 83 [t, r, g.fi 1 0, if g.fb 1 2 = true then 1 else 0, ρ.iv 13] = ptk t r (g.fi 1 0) (g.fb 1 2) (plvl g t r x) := by rw [h.1.b.std.f rfl, hlev]; show ptk _ _ _ (decide _) _ = _; rw [dec01]
          have B1 : ρ.fn 83 [t, r, g.fi 1 0, if g.fb 1 2 = true then 1 else 0, ρ.iv 13 + 1] = ptk t r (g.fi 1 0) (g.fb 1 2) (plvl g t r x + 1) := by rw [h.1.b.std.f rfl, hlev]; show ptk _ _ _ (decide _) _ = _; rw [dec01]
          have s15 := h.1.s15
          obtain ⟨-, k1, -, -, k4, -, -, k7, -, -, k10, -, -, k13, k14, k15, k16, -⟩ := Eq.mp (sR2_says2 ρ) hv
          simp only [e20, e21, s15, e84, u0, u1, v0, v1, A0, A1, B0, B1] at k1 k4 k7 k10 k13 k14 k15 k16
          have hc0 : E.i ρ (.ite (.bin .and (.bin .lt (.c 0) (.v 157797374496499192)) (.bv 782741206561574860)) (.bin .add (.v 9375996378674662) (.c 1)) (.v 9375996378674662)) = pspr g t r x 0 := by
            simp only [E.i, E.b, k1, k4, k7, k10, k13, k14, k15, k16, pspr, pleft, Bool.and_eq_true, decide_eq_true_eq]
            try (first | rfl | (congr; done) | ((repeat' split) <;> omega))
          have hc1 : E.i ρ (.v 1293947935901521602) = pspr g t r x 1 := by
            simp only [E.i, E.b, k1, k4, k7, k10, k13, k14, k15, k16, pspr, pleft, Bool.and_eq_true, decide_eq_true_eq]
            try (first | rfl | (congr; done) | ((repeat' split) <;> omega)))
        · have := pspr_bd (g := g) x (b3 0 (by omega))
          exact fit_of (z := pspr g t r x 0) hc0 (by show (-1000 : Int) ≤ _; omega) (by show _ ≤ (1001 : Int); omega)
        · have := pspr_bd (g := g) x (b3 1 (by omega))
          exact fit_of (z := pspr g t r x 1) hc1 (by show (-1000 : Int) ≤ _; omega) (by show _ ≤ (1001 : Int); omega)
        · have eL : psprL g t r x = [pspr g t r x 0, pspr g t r x 1] := by
            unfold psprL
            rw [hn]
            rfl
          rw [eL]
          refine newList_grow (cells := [.int .i64 ⟨.v 900, -1000, 1001⟩, .int .i64 ⟨.v 901, -1000, 1001⟩]) hr.heap (m := 4) (by kernel_rfl) rfl rfl ?_
          intro i v z h1 h2
          match i, h1, h2 with
          | 0, h1, h2 => cases h1; cases h2; show Value.int .i64 (E.i ρ (.ite (.bin .and (.bin .lt (.c 0) (.v 157797374496499192)) (.bv 782741206561574860)) (.bin .add (.v 9375996378674662) (.c 1)) (.v 9375996378674662))) = _; rw [hc0]
          | 1, h1, h2 => cases h1; cases h2; show Value.int .i64 (E.i ρ (.v 1293947935901521602)) = _; rw [hc1]
          | i + 2, h1, h2 => cases h1)
    h0 ⟨fun _ => 0, fun _ => 0, fun _ => 0⟩ (noHeap _ _ _ _) (by
          refine ⟨⟨⟨?_, ?_⟩, ⟨?_, ?_⟩, ⟨?_, ?_⟩, ⟨?_, ?_⟩, trivial⟩, s1, ⟨?_, ?_⟩, trivial⟩
          all_goals simp only [E.i, h0.e20, h0.e21, h0.e22, h0.e23, h0.e24]
          all_goals omega) hm
  have e : SV.denL ρ0 ⟨fun _ => 0, fun _ => 0, fun _ => 0⟩ sR2Args = [.agg #[.int .i64 t, .int .i64 r, .int .i64 s, .int .i64 c], .slice g.A g.n g.c, .int .i64 x] := by
    unfold sR2Args
    simp only [SV.denL]
    simp only [den_agg, SV.denL, den_int, E.i, h0.e20, h0.e21, h0.e22, h0.e23, h0.e24]
    rw [s2]
  rw [e] at key
  exact key
set_option maxRecDepth 100000 in
set_option maxHeartbeats 1000000 in
theorem refSpread3 (g : GD) (hk : g.ks = [true, true, false]) (hn : g.n = 3) (t r s c x : Int) (w : World) (o : g.ok w) (hps : pspreadMay g t r s c = 0) (bx : B64 x) :
    Calls Try.prog 89 #[.agg #[.int .i64 t, .int .i64 r, .int .i64 s, .int .i64 c], .slice g.A g.n g.c, .int .i64 x] w fun e w' => (∃ v, e = .returned v ∧ (fun v w' => NewList 3 w.heap.size w' (psprL g t r x) v) v w') ∧ Below w.heap.size w w' := by
  unfold B64 at bx
  obtain ⟨⟨a1, a2, a3, a4, a5, a6, a7, a8⟩, b1, b2, b3⟩ := psm_all _ hps
  have hcl : -4000 ≤ pclipS g t r x ∧ pclipS g t r x ≤ 4000 := by
    have u1 := ptotS_bd4 hps (-t)
    have u2 := ptotS_bd4 hps t
    unfold pclipS
    omega
  obtain ⟨ρ0, hj⟩ := Jm.start shF noB (fun _ => g) (shM g t r s c x) (fun _ => false)
  have h0 := hj.shb
  have hG : ∀ k : Nat, ((fun _ => g) k).ok w := fun _ => o
  have hm := hj.mem (w := w) hG
  obtain ⟨s1, s2⟩ := h0.std.osl hG (k := 0) (sh := [.int .i64 (-9223372036854775808) 9223372036854775807, .int .i64 (-9223372036854775808) 9223372036854775807, .bool]) (by show g.ks.map ckOf = _; rw [hk]; rfl) (by show g.ks.length ≤ 100; rw [hk]; decide) (e := .v 4) (lo := 3) (hi := 3) h0.l4 (by decide) (by show (3 : Int) ≤ g.n; omega) (by show (g.n : Int) ≤ 3; omega) (· < 0) ⟨fun _ => 0, fun _ => 0, fun _ => 0⟩
  clear hj
  have key := loop1_new (P := Try.prog) (cfg := cfgK sRSum sR3Keeps 50 12) Try.func89 rfl (k := 3) (i := 0) (n := 10) (by decide +kernel) (by kernel_rfl) (args := sR3Args) (H := []) (nx := 0) sR3_ran0 sR3_defs0 sR3_no0 sR3_ran1 sR3_defs1 sR3_no1 sR3_ran2 sR3_defs2 sR3_no2 w (R := fun v w' => NewList 3 w.heap.size w' (psprL g t r x) v) (ShB g t r s c x) (ShR g t r s c x) (fun ρ => ShR g t r s c x ρ ∧ (ρ.iv 13 = -t ∨ ptotS g t r (ρ.iv 13) g.n ≤ pclipS g t r x)) (fun ρ => (ρ.iv 13 + t).toNat)
    (fun ρ h => ⟨h.std.et, sR_sum h.std o hk⟩) (fun ρ h => ⟨h.b.std.et, sR_sum h.b.std o hk⟩) (fun ρ ρ' h hs => h.same hs) (fun ρ ρ' h hs => h.same hs) (fun ρ h => h.1) (fun ρ ρ' h hs => ⟨(h.1.same hs).1, by rw [iv_same hs (n := 13) rfl]; exact h.2⟩) (by kernel_rfl)
    (fun ρ h => by
      have e20 : ρ.iv 20 = t := h.e20
      have e21 : ρ.iv 21 = r := h.e21
      have e22 : ρ.iv 22 = s := h.e22
      have e23 : ρ.iv 23 = c := h.e23
      have e24 := h.e24
      have h4 := h.l4
      refine List.forall_mem_cons.2 ⟨?_, List.forall_mem_cons.2 ⟨?_, List.forall_mem_cons.2 ⟨?_, List.forall_mem_cons.2 ⟨?_, List.forall_mem_cons.2 ⟨?_, List.forall_mem_cons.2 ⟨?_, fun _ h => nomatch h⟩⟩⟩⟩⟩⟩
      · exact fit_of (z := ρ.iv 20) rfl (by show (1 : Int) ≤ ρ.iv 20; omega) (by show ρ.iv 20 ≤ 1000; omega)
      · exact fit_of (z := ρ.iv 21) rfl (by show (1 : Int) ≤ ρ.iv 21; omega) (by show ρ.iv 21 ≤ 1000; omega)
      · exact fit_of (z := ρ.iv 22) rfl (by show (0 : Int) ≤ ρ.iv 22; omega) (by show ρ.iv 22 ≤ 1000; omega)
      · exact fit_of (z := ρ.iv 23) rfl (by show (1 : Int) ≤ ρ.iv 23; omega) (by show ρ.iv 23 ≤ 10; omega)
      · exact fit_of (z := ρ.iv 4) rfl (by show (3 : Int) ≤ ρ.iv 4; omega) (by show ρ.iv 4 ≤ 3; omega)
      · exact fit_of (z := ρ.iv 24) rfl (by show (-9223372036854775808 : Int) ≤ ρ.iv 24; omega) (by show ρ.iv 24 ≤ 9223372036854775807; omega))
    (fun ρ h => by
      have e20 : ρ.iv 20 = t := h.b.e20
      have e21 : ρ.iv 21 = r := h.b.e21
      have e22 : ρ.iv 22 = s := h.b.e22
      have e23 : ρ.iv 23 = c := h.b.e23
      have e24 := h.b.e24
      have h4 := h.b.l4
      have h5 := h.low
      have h6 := h.high
      have h7 := h.s15
      refine List.forall_mem_cons.2 ⟨?_, List.forall_mem_cons.2 ⟨?_, List.forall_mem_cons.2 ⟨?_, List.forall_mem_cons.2 ⟨?_, List.forall_mem_cons.2 ⟨?_, List.forall_mem_cons.2 ⟨?_, List.forall_mem_cons.2 ⟨?_, fun _ h => nomatch h⟩⟩⟩⟩⟩⟩⟩
      · exact fit_of (z := ρ.iv 13) rfl (by show (-1000 : Int) ≤ ρ.iv 13; omega) (by show ρ.iv 13 ≤ 1000; omega)
      · exact fit_of (z := ρ.iv 4) rfl (by show (3 : Int) ≤ ρ.iv 4; omega) (by show ρ.iv 4 ≤ 3; omega)
      · exact fit_of (z := ρ.iv 15) rfl (by show (-4000 : Int) ≤ ρ.iv 15; omega) (by show ρ.iv 15 ≤ 4000; omega)
      · exact fit_of (z := ρ.iv 20) rfl (by show (1 : Int) ≤ ρ.iv 20; omega) (by show ρ.iv 20 ≤ 1000; omega)
      · exact fit_of (z := ρ.iv 21) rfl (by show (1 : Int) ≤ ρ.iv 21; omega) (by show ρ.iv 21 ≤ 1000; omega)
      · exact fit_of (z := ρ.iv 22) rfl (by show (0 : Int) ≤ ρ.iv 22; omega) (by show ρ.iv 22 ≤ 1000; omega)
      · exact fit_of (z := ρ.iv 23) rfl (by show (1 : Int) ≤ ρ.iv 23; omega) (by show ρ.iv 23 ≤ 10; omega))
    (fun ρ h hv => Eq.mpr (sR3_w0 ρ) (by
      refine ⟨fun _ => decide_eq_true ?_, trivial⟩
      rw [h.e20, h.e21, h.e22, h.e23, h.std.f rfl]
      exact hps))
    (fun ρ h hv => Eq.mpr (sR3_w1 ρ) (by
      refine ⟨fun _ => decide_eq_true ?_, trivial⟩
      rw [h.b.e20, h.b.e21, h.b.e22, h.b.e23, h.b.std.f rfl]
      exact hps))
    (fun ρ h hv => Eq.mpr (sR3_w2 ρ) (by
      have h1b := h.1.b
      have e20 : ρ.iv 20 = t := h.1.b.e20
      have e21 : ρ.iv 21 = r := h.1.b.e21
      have e22 : ρ.iv 22 = s := h.1.b.e22
      have e23 : ρ.iv 23 = c := h.1.b.e23
      have e24 := h.1.b.e24
      have h4 := h.1.b.l4
      have h87 : decide (ρ.fn 87 [0, ρ.iv 20, ρ.iv 21, ρ.iv 22, ρ.iv 23] = 0) = true := decide_eq_true (by rw [e20, e21, e22, e23, h1b.std.f rfl]; exact hps)
      have l0 : decide ((0 : Int) < ρ.iv 4) = true := decide_eq_true (by omega)
      have h88_0 : decide (ρ.fn 88 [ρ.iv 20, ρ.iv 21, ρ.iv 22, ρ.iv 23, ρ.fn 1000 [0], ρ.fn 1001 [0], if ρ.fb 1002 [0] = true then 1 else 0] = 0) = true := decide_eq_true (by
        have u0 : ρ.fn 1000 [0] = g.fi 0 0 := h1b.std.e (k := 0) (j := 0) rfl _
        have u1 : ρ.fn 1001 [0] = g.fi 0 1 := h1b.std.e (k := 0) (j := 1) rfl _
        have u2 : ρ.fb 1002 [0] = g.fb 0 2 := h1b.std.eb (k := 0) (j := 2) rfl _
        rw [e20, e21, e22, e23, u0, u1, u2, h1b.std.f rfl]
        show pservo _ _ _ _ _ _ (decide _) = 0
        rw [dec01]
        exact b3 0 (by omega))
      have l1 : decide ((1 : Int) < ρ.iv 4) = true := decide_eq_true (by omega)
      have h88_1 : decide (ρ.fn 88 [ρ.iv 20, ρ.iv 21, ρ.iv 22, ρ.iv 23, ρ.fn 1000 [1], ρ.fn 1001 [1], if ρ.fb 1002 [1] = true then 1 else 0] = 0) = true := decide_eq_true (by
        have u0 : ρ.fn 1000 [1] = g.fi 1 0 := h1b.std.e (k := 0) (j := 0) rfl _
        have u1 : ρ.fn 1001 [1] = g.fi 1 1 := h1b.std.e (k := 0) (j := 1) rfl _
        have u2 : ρ.fb 1002 [1] = g.fb 1 2 := h1b.std.eb (k := 0) (j := 2) rfl _
        rw [e20, e21, e22, e23, u0, u1, u2, h1b.std.f rfl]
        show pservo _ _ _ _ _ _ (decide _) = 0
        rw [dec01]
        exact b3 1 (by omega))
      have l2 : decide ((2 : Int) < ρ.iv 4) = true := decide_eq_true (by omega)
      have h88_2 : decide (ρ.fn 88 [ρ.iv 20, ρ.iv 21, ρ.iv 22, ρ.iv 23, ρ.fn 1000 [2], ρ.fn 1001 [2], if ρ.fb 1002 [2] = true then 1 else 0] = 0) = true := decide_eq_true (by
        have u0 : ρ.fn 1000 [2] = g.fi 2 0 := h1b.std.e (k := 0) (j := 0) rfl _
        have u1 : ρ.fn 1001 [2] = g.fi 2 1 := h1b.std.e (k := 0) (j := 1) rfl _
        have u2 : ρ.fb 1002 [2] = g.fb 2 2 := h1b.std.eb (k := 0) (j := 2) rfl _
        rw [e20, e21, e22, e23, u0, u1, u2, h1b.std.f rfl]
        show pservo _ _ _ _ _ _ (decide _) = 0
        rw [dec01]
        exact b3 2 (by omega))
      (repeat' (first | exact trivial | refine And.intro ?_ ?_))
      all_goals (intro _; first | exact h87 | exact l0 | exact h88_0 | exact l1 | exact h88_1 | exact l2 | exact h88_2)))
    (by
      refine List.forall_mem_cons.2 ⟨?_, fun _ h => nomatch h⟩
      · intro ρ h hv hp
        refine .inr ⟨rfl, rfl, ?_⟩
        obtain ⟨-, k1, k2, -⟩ := Eq.mp (sR3_says0 ρ) hv
        have e1 : ρ.fn 84 [0, t, r, 0 - t] = ptotS g t r (-t) g.n := by rw [h.std.f rfl, Int.zero_sub]; rfl
        have e2 : ρ.fn 84 [0, t, r, t] = ptotS g t r t g.n := by rw [h.std.f rfl]; rfl
        rw [h.e20, h.e21, e1] at k1
        rw [h.e20, h.e21, h.e24, e2, k1] at k2
        exact ⟨⟨h.std.sub _, h.l4, h.e20, h.e21, h.e22, h.e23, h.e24⟩, k2, by show -t ≤ ρ.iv 20; rw [h.e20]; omega, by show ρ.iv 20 ≤ t; rw [h.e20]; omega, fun z h1 h2 => by have h1 : ρ.iv 20 < z := h1; rw [h.e20] at h1; omega⟩)
    (by
      refine List.forall_mem_cons.2 ⟨?_, List.forall_mem_cons.2 ⟨?_, fun _ h => nomatch h⟩⟩
      · intro ρ h hv hp
        obtain ⟨c0, _⟩ := Eq.mp (sR3_1_pc0 ρ) hp
        refine .inl ⟨rfl, rfl, ?_, ?_⟩
        · rw [h.b.e20, h.b.e21, h.s15] at c0
          have e84 : ρ.fn 84 [0, t, r, ρ.iv 13] = ptotS g t r (ρ.iv 13) g.n := by rw [h.b.std.f rfl]; rfl
          rw [e84, Bool.and_eq_true, decide_eq_true_eq, decide_eq_true_eq] at c0
          have h5 := h.low
          have h6 := h.high
          refine ⟨⟨h.b.std.sub _, h.b.l4, h.b.e20, h.b.e21, h.b.e22, h.b.e23, h.b.e24⟩, h.s15, by show -t ≤ ρ.iv 13 - 1; omega, by show ρ.iv 13 - 1 ≤ t; omega, fun z h1 h2 => ?_⟩
          have h1 : ρ.iv 13 - 1 < z := h1
          by_cases hz : z = ρ.iv 13
          · rw [hz]; exact c0.2
          · exact h.above z (by omega) h2
        · rw [h.b.e20, Bool.and_eq_true, decide_eq_true_eq] at c0
          show (ρ.iv 13 - 1 + t).toNat < (ρ.iv 13 + t).toNat
          have h5 := h.low
          omega
      · intro ρ h hv hp
        obtain ⟨c0, _⟩ := Eq.mp (sR3_1_pc1 ρ) hp
        refine .inr (.inl ⟨rfl, rfl, ?_⟩)
        rw [h.b.e20, h.b.e21, h.s15] at c0
        have e84 : ρ.fn 84 [0, t, r, ρ.iv 13] = ptotS g t r (ρ.iv 13) g.n := by rw [h.b.std.f rfl]; rfl
        rw [e84, Bool.not_eq_true', ← Bool.not_eq_true, Bool.and_eq_true, decide_eq_true_eq, decide_eq_true_eq] at c0
        have h5 := h.low
        exact ⟨⟨⟨h.b.std.sub _, h.b.l4, h.b.e20, h.b.e21, h.b.e22, h.b.e23, h.b.e24⟩, h.s15, h.low, h.high, h.above⟩, by show ρ.iv 13 = -t ∨ ptotS g t r (ρ.iv 13) g.n ≤ pclipS g t r x; omega⟩)
    (by
      refine List.forall_mem_cons.2 ⟨?_, fun _ h => nomatch h⟩
      · intro ρ h hv hp
        refine ⟨.inr rfl, List.forall_mem_cons.2 ⟨?_, List.forall_mem_cons.2 ⟨?_, List.forall_mem_cons.2 ⟨?_, fun _ h => nomatch h⟩⟩⟩, [.sl 6 0 3 none], by kernel_rfl, fun b w' tm hr => ?_⟩
        all_goals (
          have e20 : ρ.iv 20 = t := h.1.b.e20
          have e21 : ρ.iv 21 = r := h.1.b.e21
          have e22 : ρ.iv 22 = s := h.1.b.e22
          have e23 : ρ.iv 23 = c := h.1.b.e23
          have e24 := h.1.b.e24
          have h4 := h.1.b.l4
          have hlev := h.1.lev (by omega) h.2
          have e84 : ρ.fn 84 [0, t, r, ρ.iv 13] = ptotS g t r (plvl g t r x) g.n := by rw [h.1.b.std.f rfl, hlev]; rfl
          have u0 : ρ.fn 1000 [0] = g.fi 0 0 := h.1.b.std.e (k := 0) (j := 0) rfl _
          have v0 : ρ.fb 1002 [0] = g.fb 0 2 := h.1.b.std.eb (k := 0) (j := 2) rfl _
          have A0 : ρ.fn 83 [t, r, g.fi 0 0, if g.fb 0 2 = true then 1 else 0, ρ.iv 13] = ptk t r (g.fi 0 0) (g.fb 0 2) (plvl g t r x) := by rw [h.1.b.std.f rfl, hlev]; show ptk _ _ _ (decide _) _ = _; rw [dec01]
          have B0 : ρ.fn 83 [t, r, g.fi 0 0, if g.fb 0 2 = true then 1 else 0, ρ.iv 13 + 1] = ptk t r (g.fi 0 0) (g.fb 0 2) (plvl g t r x + 1) := by rw [h.1.b.std.f rfl, hlev]; show ptk _ _ _ (decide _) _ = _; rw [dec01]
          have u1 : ρ.fn 1000 [1] = g.fi 1 0 := h.1.b.std.e (k := 0) (j := 0) rfl _
          have v1 : ρ.fb 1002 [1] = g.fb 1 2 := h.1.b.std.eb (k := 0) (j := 2) rfl _
          have A1 : ρ.fn 83 [t, r, g.fi 1 0, if g.fb 1 2 = true then 1 else 0, ρ.iv 13] = ptk t r (g.fi 1 0) (g.fb 1 2) (plvl g t r x) := by rw [h.1.b.std.f rfl, hlev]; show ptk _ _ _ (decide _) _ = _; rw [dec01]
          have B1 : ρ.fn 83 [t, r, g.fi 1 0, if g.fb 1 2 = true then 1 else 0, ρ.iv 13 + 1] = ptk t r (g.fi 1 0) (g.fb 1 2) (plvl g t r x + 1) := by rw [h.1.b.std.f rfl, hlev]; show ptk _ _ _ (decide _) _ = _; rw [dec01]
          have u2 : ρ.fn 1000 [2] = g.fi 2 0 := h.1.b.std.e (k := 0) (j := 0) rfl _
          have v2 : ρ.fb 1002 [2] = g.fb 2 2 := h.1.b.std.eb (k := 0) (j := 2) rfl _
          have A2 : ρ.fn 83 [t, r, g.fi 2 0, if g.fb 2 2 = true then 1 else 0, ρ.iv 13] = ptk t r (g.fi 2 0) (g.fb 2 2) (plvl g t r x) := by rw [h.1.b.std.f rfl, hlev]; show ptk _ _ _ (decide _) _ = _; rw [dec01]
          have B2 : ρ.fn 83 [t, r, g.fi 2 0, if g.fb 2 2 = true then 1 else 0, ρ.iv 13 + 1] = ptk t r (g.fi 2 0) (g.fb 2 2) (plvl g t r x + 1) := by rw [h.1.b.std.f rfl, hlev]; show ptk _ _ _ (decide _) _ = _; rw [dec01]
          have s15 := h.1.s15
          obtain ⟨-, k1, -, -, k4, -, -, k7, -, -, k10, -, -, k13, k14, k15, k16, -, -, k19, -, -, k22, -⟩ := Eq.mp (sR3_says2 ρ) hv
          simp only [e20, e21, s15, e84, u0, u1, u2, v0, v1, v2, A0, A1, A2, B0, B1, B2] at k1 k4 k7 k10 k13 k14 k15 k16 k19 k22
          have hc0 : E.i ρ (.ite (.bin .and (.bin .lt (.c 0) (.v 157797374496499192)) (.bv 782741206561574860)) (.bin .add (.v 9375996378674662) (.c 1)) (.v 9375996378674662)) = pspr g t r x 0 := by
            simp only [E.i, E.b, k1, k4, k7, k10, k13, k14, k15, k16, k19, k22, pspr, pleft, Bool.and_eq_true, decide_eq_true_eq]
            try (first | rfl | (congr; done) | ((repeat' split) <;> omega))
          have hc1 : E.i ρ (.v 1293947935901521602) = pspr g t r x 1 := by
            simp only [E.i, E.b, k1, k4, k7, k10, k13, k14, k15, k16, k19, k22, pspr, pleft, Bool.and_eq_true, decide_eq_true_eq]
            try (first | rfl | (congr; done) | ((repeat' split) <;> omega))
          have hc2 : E.i ρ (.ite (.bin .and (.bin .lt (.c 0) (.v 1265140037774112887)) (.bv 1613713519806856232)) (.bin .add (.v 334445701916657824) (.c 1)) (.v 334445701916657824)) = pspr g t r x 2 := by
            simp only [E.i, E.b, k1, k4, k7, k10, k13, k14, k15, k16, k19, k22, pspr, pleft, Bool.and_eq_true, decide_eq_true_eq]
            try (first | rfl | (congr; done) | ((repeat' split) <;> omega)))
        · have := pspr_bd (g := g) x (b3 0 (by omega))
          exact fit_of (z := pspr g t r x 0) hc0 (by show (-1000 : Int) ≤ _; omega) (by show _ ≤ (1001 : Int); omega)
        · have := pspr_bd (g := g) x (b3 1 (by omega))
          exact fit_of (z := pspr g t r x 1) hc1 (by show (-1000 : Int) ≤ _; omega) (by show _ ≤ (1001 : Int); omega)
        · have := pspr_bd (g := g) x (b3 2 (by omega))
          exact fit_of (z := pspr g t r x 2) hc2 (by show (-1000 : Int) ≤ _; omega) (by show _ ≤ (1001 : Int); omega)
        · have eL : psprL g t r x = [pspr g t r x 0, pspr g t r x 1, pspr g t r x 2] := by
            unfold psprL
            rw [hn]
            rfl
          rw [eL]
          refine newList_grow (cells := [.int .i64 ⟨.v 900, -1000, 1001⟩, .int .i64 ⟨.v 901, -1000, 1001⟩, .int .i64 ⟨.v 902, -1000, 1001⟩]) hr.heap (m := 6) (by kernel_rfl) rfl rfl ?_
          intro i v z h1 h2
          match i, h1, h2 with
          | 0, h1, h2 => cases h1; cases h2; show Value.int .i64 (E.i ρ (.ite (.bin .and (.bin .lt (.c 0) (.v 157797374496499192)) (.bv 782741206561574860)) (.bin .add (.v 9375996378674662) (.c 1)) (.v 9375996378674662))) = _; rw [hc0]
          | 1, h1, h2 => cases h1; cases h2; show Value.int .i64 (E.i ρ (.v 1293947935901521602)) = _; rw [hc1]
          | 2, h1, h2 => cases h1; cases h2; show Value.int .i64 (E.i ρ (.ite (.bin .and (.bin .lt (.c 0) (.v 1265140037774112887)) (.bv 1613713519806856232)) (.bin .add (.v 334445701916657824) (.c 1)) (.v 334445701916657824))) = _; rw [hc2]
          | i + 3, h1, h2 => cases h1)
    h0 ⟨fun _ => 0, fun _ => 0, fun _ => 0⟩ (noHeap _ _ _ _) (by
          refine ⟨⟨⟨?_, ?_⟩, ⟨?_, ?_⟩, ⟨?_, ?_⟩, ⟨?_, ?_⟩, trivial⟩, s1, ⟨?_, ?_⟩, trivial⟩
          all_goals simp only [E.i, h0.e20, h0.e21, h0.e22, h0.e23, h0.e24]
          all_goals omega) hm
  have e : SV.denL ρ0 ⟨fun _ => 0, fun _ => 0, fun _ => 0⟩ sR3Args = [.agg #[.int .i64 t, .int .i64 r, .int .i64 s, .int .i64 c], .slice g.A g.n g.c, .int .i64 x] := by
    unfold sR3Args
    simp only [SV.denL]
    simp only [den_agg, SV.denL, den_int, E.i, h0.e20, h0.e21, h0.e22, h0.e23, h0.e24]
    rw [s2]
  rw [e] at key
  exact key
set_option maxRecDepth 100000 in
set_option maxHeartbeats 1000000 in
theorem refSpread4 (g : GD) (hk : g.ks = [true, true, false]) (hn : g.n = 4) (t r s c x : Int) (w : World) (o : g.ok w) (hps : pspreadMay g t r s c = 0) (bx : B64 x) :
    Calls Try.prog 89 #[.agg #[.int .i64 t, .int .i64 r, .int .i64 s, .int .i64 c], .slice g.A g.n g.c, .int .i64 x] w fun e w' => (∃ v, e = .returned v ∧ (fun v w' => NewList 3 w.heap.size w' (psprL g t r x) v) v w') ∧ Below w.heap.size w w' := by
  unfold B64 at bx
  obtain ⟨⟨a1, a2, a3, a4, a5, a6, a7, a8⟩, b1, b2, b3⟩ := psm_all _ hps
  have hcl : -4000 ≤ pclipS g t r x ∧ pclipS g t r x ≤ 4000 := by
    have u1 := ptotS_bd4 hps (-t)
    have u2 := ptotS_bd4 hps t
    unfold pclipS
    omega
  obtain ⟨ρ0, hj⟩ := Jm.start shF noB (fun _ => g) (shM g t r s c x) (fun _ => false)
  have h0 := hj.shb
  have hG : ∀ k : Nat, ((fun _ => g) k).ok w := fun _ => o
  have hm := hj.mem (w := w) hG
  obtain ⟨s1, s2⟩ := h0.std.osl hG (k := 0) (sh := [.int .i64 (-9223372036854775808) 9223372036854775807, .int .i64 (-9223372036854775808) 9223372036854775807, .bool]) (by show g.ks.map ckOf = _; rw [hk]; rfl) (by show g.ks.length ≤ 100; rw [hk]; decide) (e := .v 4) (lo := 4) (hi := 4) h0.l4 (by decide) (by show (4 : Int) ≤ g.n; omega) (by show (g.n : Int) ≤ 4; omega) (· < 0) ⟨fun _ => 0, fun _ => 0, fun _ => 0⟩
  clear hj
  have key := loop1_new (P := Try.prog) (cfg := cfgK sRSum sR4Keeps 50 12) Try.func89 rfl (k := 3) (i := 0) (n := 10) (by decide +kernel) (by kernel_rfl) (args := sR4Args) (H := []) (nx := 0) sR4_ran0 sR4_defs0 sR4_no0 sR4_ran1 sR4_defs1 sR4_no1 sR4_ran2 sR4_defs2 sR4_no2 w (R := fun v w' => NewList 3 w.heap.size w' (psprL g t r x) v) (ShB g t r s c x) (ShR g t r s c x) (fun ρ => ShR g t r s c x ρ ∧ (ρ.iv 13 = -t ∨ ptotS g t r (ρ.iv 13) g.n ≤ pclipS g t r x)) (fun ρ => (ρ.iv 13 + t).toNat)
    (fun ρ h => ⟨h.std.et, sR_sum h.std o hk⟩) (fun ρ h => ⟨h.b.std.et, sR_sum h.b.std o hk⟩) (fun ρ ρ' h hs => h.same hs) (fun ρ ρ' h hs => h.same hs) (fun ρ h => h.1) (fun ρ ρ' h hs => ⟨(h.1.same hs).1, by rw [iv_same hs (n := 13) rfl]; exact h.2⟩) (by kernel_rfl)
    (fun ρ h => by
      have e20 : ρ.iv 20 = t := h.e20
      have e21 : ρ.iv 21 = r := h.e21
      have e22 : ρ.iv 22 = s := h.e22
      have e23 : ρ.iv 23 = c := h.e23
      have e24 := h.e24
      have h4 := h.l4
      refine List.forall_mem_cons.2 ⟨?_, List.forall_mem_cons.2 ⟨?_, List.forall_mem_cons.2 ⟨?_, List.forall_mem_cons.2 ⟨?_, List.forall_mem_cons.2 ⟨?_, List.forall_mem_cons.2 ⟨?_, fun _ h => nomatch h⟩⟩⟩⟩⟩⟩
      · exact fit_of (z := ρ.iv 20) rfl (by show (1 : Int) ≤ ρ.iv 20; omega) (by show ρ.iv 20 ≤ 1000; omega)
      · exact fit_of (z := ρ.iv 21) rfl (by show (1 : Int) ≤ ρ.iv 21; omega) (by show ρ.iv 21 ≤ 1000; omega)
      · exact fit_of (z := ρ.iv 22) rfl (by show (0 : Int) ≤ ρ.iv 22; omega) (by show ρ.iv 22 ≤ 1000; omega)
      · exact fit_of (z := ρ.iv 23) rfl (by show (1 : Int) ≤ ρ.iv 23; omega) (by show ρ.iv 23 ≤ 10; omega)
      · exact fit_of (z := ρ.iv 4) rfl (by show (4 : Int) ≤ ρ.iv 4; omega) (by show ρ.iv 4 ≤ 4; omega)
      · exact fit_of (z := ρ.iv 24) rfl (by show (-9223372036854775808 : Int) ≤ ρ.iv 24; omega) (by show ρ.iv 24 ≤ 9223372036854775807; omega))
    (fun ρ h => by
      have e20 : ρ.iv 20 = t := h.b.e20
      have e21 : ρ.iv 21 = r := h.b.e21
      have e22 : ρ.iv 22 = s := h.b.e22
      have e23 : ρ.iv 23 = c := h.b.e23
      have e24 := h.b.e24
      have h4 := h.b.l4
      have h5 := h.low
      have h6 := h.high
      have h7 := h.s15
      refine List.forall_mem_cons.2 ⟨?_, List.forall_mem_cons.2 ⟨?_, List.forall_mem_cons.2 ⟨?_, List.forall_mem_cons.2 ⟨?_, List.forall_mem_cons.2 ⟨?_, List.forall_mem_cons.2 ⟨?_, List.forall_mem_cons.2 ⟨?_, fun _ h => nomatch h⟩⟩⟩⟩⟩⟩⟩
      · exact fit_of (z := ρ.iv 13) rfl (by show (-1000 : Int) ≤ ρ.iv 13; omega) (by show ρ.iv 13 ≤ 1000; omega)
      · exact fit_of (z := ρ.iv 4) rfl (by show (4 : Int) ≤ ρ.iv 4; omega) (by show ρ.iv 4 ≤ 4; omega)
      · exact fit_of (z := ρ.iv 15) rfl (by show (-4000 : Int) ≤ ρ.iv 15; omega) (by show ρ.iv 15 ≤ 4000; omega)
      · exact fit_of (z := ρ.iv 20) rfl (by show (1 : Int) ≤ ρ.iv 20; omega) (by show ρ.iv 20 ≤ 1000; omega)
      · exact fit_of (z := ρ.iv 21) rfl (by show (1 : Int) ≤ ρ.iv 21; omega) (by show ρ.iv 21 ≤ 1000; omega)
      · exact fit_of (z := ρ.iv 22) rfl (by show (0 : Int) ≤ ρ.iv 22; omega) (by show ρ.iv 22 ≤ 1000; omega)
      · exact fit_of (z := ρ.iv 23) rfl (by show (1 : Int) ≤ ρ.iv 23; omega) (by show ρ.iv 23 ≤ 10; omega))
    (fun ρ h hv => Eq.mpr (sR4_w0 ρ) (by
      refine ⟨fun _ => decide_eq_true ?_, trivial⟩
      rw [h.e20, h.e21, h.e22, h.e23, h.std.f rfl]
      exact hps))
    (fun ρ h hv => Eq.mpr (sR4_w1 ρ) (by
      refine ⟨fun _ => decide_eq_true ?_, trivial⟩
      rw [h.b.e20, h.b.e21, h.b.e22, h.b.e23, h.b.std.f rfl]
      exact hps))
    (fun ρ h hv => Eq.mpr (sR4_w2 ρ) (by
      have h1b := h.1.b
      have e20 : ρ.iv 20 = t := h.1.b.e20
      have e21 : ρ.iv 21 = r := h.1.b.e21
      have e22 : ρ.iv 22 = s := h.1.b.e22
      have e23 : ρ.iv 23 = c := h.1.b.e23
      have e24 := h.1.b.e24
      have h4 := h.1.b.l4
      have h87 : decide (ρ.fn 87 [0, ρ.iv 20, ρ.iv 21, ρ.iv 22, ρ.iv 23] = 0) = true := decide_eq_true (by rw [e20, e21, e22, e23, h1b.std.f rfl]; exact hps)
      have l0 : decide ((0 : Int) < ρ.iv 4) = true := decide_eq_true (by omega)
      have h88_0 : decide (ρ.fn 88 [ρ.iv 20, ρ.iv 21, ρ.iv 22, ρ.iv 23, ρ.fn 1000 [0], ρ.fn 1001 [0], if ρ.fb 1002 [0] = true then 1 else 0] = 0) = true := decide_eq_true (by
        have u0 : ρ.fn 1000 [0] = g.fi 0 0 := h1b.std.e (k := 0) (j := 0) rfl _
        have u1 : ρ.fn 1001 [0] = g.fi 0 1 := h1b.std.e (k := 0) (j := 1) rfl _
        have u2 : ρ.fb 1002 [0] = g.fb 0 2 := h1b.std.eb (k := 0) (j := 2) rfl _
        rw [e20, e21, e22, e23, u0, u1, u2, h1b.std.f rfl]
        show pservo _ _ _ _ _ _ (decide _) = 0
        rw [dec01]
        exact b3 0 (by omega))
      have l1 : decide ((1 : Int) < ρ.iv 4) = true := decide_eq_true (by omega)
      have h88_1 : decide (ρ.fn 88 [ρ.iv 20, ρ.iv 21, ρ.iv 22, ρ.iv 23, ρ.fn 1000 [1], ρ.fn 1001 [1], if ρ.fb 1002 [1] = true then 1 else 0] = 0) = true := decide_eq_true (by
        have u0 : ρ.fn 1000 [1] = g.fi 1 0 := h1b.std.e (k := 0) (j := 0) rfl _
        have u1 : ρ.fn 1001 [1] = g.fi 1 1 := h1b.std.e (k := 0) (j := 1) rfl _
        have u2 : ρ.fb 1002 [1] = g.fb 1 2 := h1b.std.eb (k := 0) (j := 2) rfl _
        rw [e20, e21, e22, e23, u0, u1, u2, h1b.std.f rfl]
        show pservo _ _ _ _ _ _ (decide _) = 0
        rw [dec01]
        exact b3 1 (by omega))
      have l2 : decide ((2 : Int) < ρ.iv 4) = true := decide_eq_true (by omega)
      have h88_2 : decide (ρ.fn 88 [ρ.iv 20, ρ.iv 21, ρ.iv 22, ρ.iv 23, ρ.fn 1000 [2], ρ.fn 1001 [2], if ρ.fb 1002 [2] = true then 1 else 0] = 0) = true := decide_eq_true (by
        have u0 : ρ.fn 1000 [2] = g.fi 2 0 := h1b.std.e (k := 0) (j := 0) rfl _
        have u1 : ρ.fn 1001 [2] = g.fi 2 1 := h1b.std.e (k := 0) (j := 1) rfl _
        have u2 : ρ.fb 1002 [2] = g.fb 2 2 := h1b.std.eb (k := 0) (j := 2) rfl _
        rw [e20, e21, e22, e23, u0, u1, u2, h1b.std.f rfl]
        show pservo _ _ _ _ _ _ (decide _) = 0
        rw [dec01]
        exact b3 2 (by omega))
      have l3 : decide ((3 : Int) < ρ.iv 4) = true := decide_eq_true (by omega)
      have h88_3 : decide (ρ.fn 88 [ρ.iv 20, ρ.iv 21, ρ.iv 22, ρ.iv 23, ρ.fn 1000 [3], ρ.fn 1001 [3], if ρ.fb 1002 [3] = true then 1 else 0] = 0) = true := decide_eq_true (by
        have u0 : ρ.fn 1000 [3] = g.fi 3 0 := h1b.std.e (k := 0) (j := 0) rfl _
        have u1 : ρ.fn 1001 [3] = g.fi 3 1 := h1b.std.e (k := 0) (j := 1) rfl _
        have u2 : ρ.fb 1002 [3] = g.fb 3 2 := h1b.std.eb (k := 0) (j := 2) rfl _
        rw [e20, e21, e22, e23, u0, u1, u2, h1b.std.f rfl]
        show pservo _ _ _ _ _ _ (decide _) = 0
        rw [dec01]
        exact b3 3 (by omega))
      (repeat' (first | exact trivial | refine And.intro ?_ ?_))
      all_goals (intro _; first | exact h87 | exact l0 | exact h88_0 | exact l1 | exact h88_1 | exact l2 | exact h88_2 | exact l3 | exact h88_3)))
    (by
      refine List.forall_mem_cons.2 ⟨?_, fun _ h => nomatch h⟩
      · intro ρ h hv hp
        refine .inr ⟨rfl, rfl, ?_⟩
        obtain ⟨-, k1, k2, -⟩ := Eq.mp (sR4_says0 ρ) hv
        have e1 : ρ.fn 84 [0, t, r, 0 - t] = ptotS g t r (-t) g.n := by rw [h.std.f rfl, Int.zero_sub]; rfl
        have e2 : ρ.fn 84 [0, t, r, t] = ptotS g t r t g.n := by rw [h.std.f rfl]; rfl
        rw [h.e20, h.e21, e1] at k1
        rw [h.e20, h.e21, h.e24, e2, k1] at k2
        exact ⟨⟨h.std.sub _, h.l4, h.e20, h.e21, h.e22, h.e23, h.e24⟩, k2, by show -t ≤ ρ.iv 20; rw [h.e20]; omega, by show ρ.iv 20 ≤ t; rw [h.e20]; omega, fun z h1 h2 => by have h1 : ρ.iv 20 < z := h1; rw [h.e20] at h1; omega⟩)
    (by
      refine List.forall_mem_cons.2 ⟨?_, List.forall_mem_cons.2 ⟨?_, fun _ h => nomatch h⟩⟩
      · intro ρ h hv hp
        obtain ⟨c0, _⟩ := Eq.mp (sR4_1_pc0 ρ) hp
        refine .inl ⟨rfl, rfl, ?_, ?_⟩
        · rw [h.b.e20, h.b.e21, h.s15] at c0
          have e84 : ρ.fn 84 [0, t, r, ρ.iv 13] = ptotS g t r (ρ.iv 13) g.n := by rw [h.b.std.f rfl]; rfl
          rw [e84, Bool.and_eq_true, decide_eq_true_eq, decide_eq_true_eq] at c0
          have h5 := h.low
          have h6 := h.high
          refine ⟨⟨h.b.std.sub _, h.b.l4, h.b.e20, h.b.e21, h.b.e22, h.b.e23, h.b.e24⟩, h.s15, by show -t ≤ ρ.iv 13 - 1; omega, by show ρ.iv 13 - 1 ≤ t; omega, fun z h1 h2 => ?_⟩
          have h1 : ρ.iv 13 - 1 < z := h1
          by_cases hz : z = ρ.iv 13
          · rw [hz]; exact c0.2
          · exact h.above z (by omega) h2
        · rw [h.b.e20, Bool.and_eq_true, decide_eq_true_eq] at c0
          show (ρ.iv 13 - 1 + t).toNat < (ρ.iv 13 + t).toNat
          have h5 := h.low
          omega
      · intro ρ h hv hp
        obtain ⟨c0, _⟩ := Eq.mp (sR4_1_pc1 ρ) hp
        refine .inr (.inl ⟨rfl, rfl, ?_⟩)
        rw [h.b.e20, h.b.e21, h.s15] at c0
        have e84 : ρ.fn 84 [0, t, r, ρ.iv 13] = ptotS g t r (ρ.iv 13) g.n := by rw [h.b.std.f rfl]; rfl
        rw [e84, Bool.not_eq_true', ← Bool.not_eq_true, Bool.and_eq_true, decide_eq_true_eq, decide_eq_true_eq] at c0
        have h5 := h.low
        exact ⟨⟨⟨h.b.std.sub _, h.b.l4, h.b.e20, h.b.e21, h.b.e22, h.b.e23, h.b.e24⟩, h.s15, h.low, h.high, h.above⟩, by show ρ.iv 13 = -t ∨ ptotS g t r (ρ.iv 13) g.n ≤ pclipS g t r x; omega⟩)
    (by
      refine List.forall_mem_cons.2 ⟨?_, fun _ h => nomatch h⟩
      · intro ρ h hv hp
        refine ⟨.inr rfl, List.forall_mem_cons.2 ⟨?_, List.forall_mem_cons.2 ⟨?_, List.forall_mem_cons.2 ⟨?_, List.forall_mem_cons.2 ⟨?_, fun _ h => nomatch h⟩⟩⟩⟩, [.sl 8 0 4 none], by kernel_rfl, fun b w' tm hr => ?_⟩
        all_goals (
          have e20 : ρ.iv 20 = t := h.1.b.e20
          have e21 : ρ.iv 21 = r := h.1.b.e21
          have e22 : ρ.iv 22 = s := h.1.b.e22
          have e23 : ρ.iv 23 = c := h.1.b.e23
          have e24 := h.1.b.e24
          have h4 := h.1.b.l4
          have hlev := h.1.lev (by omega) h.2
          have e84 : ρ.fn 84 [0, t, r, ρ.iv 13] = ptotS g t r (plvl g t r x) g.n := by rw [h.1.b.std.f rfl, hlev]; rfl
          have u0 : ρ.fn 1000 [0] = g.fi 0 0 := h.1.b.std.e (k := 0) (j := 0) rfl _
          have v0 : ρ.fb 1002 [0] = g.fb 0 2 := h.1.b.std.eb (k := 0) (j := 2) rfl _
          have A0 : ρ.fn 83 [t, r, g.fi 0 0, if g.fb 0 2 = true then 1 else 0, ρ.iv 13] = ptk t r (g.fi 0 0) (g.fb 0 2) (plvl g t r x) := by rw [h.1.b.std.f rfl, hlev]; show ptk _ _ _ (decide _) _ = _; rw [dec01]
          have B0 : ρ.fn 83 [t, r, g.fi 0 0, if g.fb 0 2 = true then 1 else 0, ρ.iv 13 + 1] = ptk t r (g.fi 0 0) (g.fb 0 2) (plvl g t r x + 1) := by rw [h.1.b.std.f rfl, hlev]; show ptk _ _ _ (decide _) _ = _; rw [dec01]
          have u1 : ρ.fn 1000 [1] = g.fi 1 0 := h.1.b.std.e (k := 0) (j := 0) rfl _
          have v1 : ρ.fb 1002 [1] = g.fb 1 2 := h.1.b.std.eb (k := 0) (j := 2) rfl _
          have A1 : ρ.fn 83 [t, r, g.fi 1 0, if g.fb 1 2 = true then 1 else 0, ρ.iv 13] = ptk t r (g.fi 1 0) (g.fb 1 2) (plvl g t r x) := by rw [h.1.b.std.f rfl, hlev]; show ptk _ _ _ (decide _) _ = _; rw [dec01]
          have B1 : ρ.fn 83 [t, r, g.fi 1 0, if g.fb 1 2 = true then 1 else 0, ρ.iv 13 + 1] = ptk t r (g.fi 1 0) (g.fb 1 2) (plvl g t r x + 1) := by rw [h.1.b.std.f rfl, hlev]; show ptk _ _ _ (decide _) _ = _; rw [dec01]
          have u2 : ρ.fn 1000 [2] = g.fi 2 0 := h.1.b.std.e (k := 0) (j := 0) rfl _
          have v2 : ρ.fb 1002 [2] = g.fb 2 2 := h.1.b.std.eb (k := 0) (j := 2) rfl _
          have A2 : ρ.fn 83 [t, r, g.fi 2 0, if g.fb 2 2 = true then 1 else 0, ρ.iv 13] = ptk t r (g.fi 2 0) (g.fb 2 2) (plvl g t r x) := by rw [h.1.b.std.f rfl, hlev]; show ptk _ _ _ (decide _) _ = _; rw [dec01]
          have B2 : ρ.fn 83 [t, r, g.fi 2 0, if g.fb 2 2 = true then 1 else 0, ρ.iv 13 + 1] = ptk t r (g.fi 2 0) (g.fb 2 2) (plvl g t r x + 1) := by rw [h.1.b.std.f rfl, hlev]; show ptk _ _ _ (decide _) _ = _; rw [dec01]
          have u3 : ρ.fn 1000 [3] = g.fi 3 0 := h.1.b.std.e (k := 0) (j := 0) rfl _
          have v3 : ρ.fb 1002 [3] = g.fb 3 2 := h.1.b.std.eb (k := 0) (j := 2) rfl _
          have A3 : ρ.fn 83 [t, r, g.fi 3 0, if g.fb 3 2 = true then 1 else 0, ρ.iv 13] = ptk t r (g.fi 3 0) (g.fb 3 2) (plvl g t r x) := by rw [h.1.b.std.f rfl, hlev]; show ptk _ _ _ (decide _) _ = _; rw [dec01]
          have B3 : ρ.fn 83 [t, r, g.fi 3 0, if g.fb 3 2 = true then 1 else 0, ρ.iv 13 + 1] = ptk t r (g.fi 3 0) (g.fb 3 2) (plvl g t r x + 1) := by rw [h.1.b.std.f rfl, hlev]; show ptk _ _ _ (decide _) _ = _; rw [dec01]
          have s15 := h.1.s15
          obtain ⟨-, k1, -, -, k4, -, -, k7, -, -, k10, -, -, k13, k14, k15, k16, -, -, k19, -, -, k22, -, -, k25, -, -, k28, k29, k30, k31, -⟩ := Eq.mp (sR4_says2 ρ) hv
          simp only [e20, e21, s15, e84, u0, u1, u2, u3, v0, v1, v2, v3, A0, A1, A2, A3, B0, B1, B2, B3] at k1 k4 k7 k10 k13 k14 k15 k16 k19 k22 k25 k28 k29 k30 k31
          have hc0 : E.i ρ (.ite (.bin .and (.bin .lt (.c 0) (.v 157797374496499192)) (.bv 782741206561574860)) (.bin .add (.v 9375996378674662) (.c 1)) (.v 9375996378674662)) = pspr g t r x 0 := by
            simp only [E.i, E.b, k1, k4, k7, k10, k13, k14, k15, k16, k19, k22, k25, k28, k29, k30, k31, pspr, pleft, Bool.and_eq_true, decide_eq_true_eq]
            try (first | rfl | (congr; done) | ((repeat' split) <;> omega))
          have hc1 : E.i ρ (.v 1293947935901521602) = pspr g t r x 1 := by
            simp only [E.i, E.b, k1, k4, k7, k10, k13, k14, k15, k16, k19, k22, k25, k28, k29, k30, k31, pspr, pleft, Bool.and_eq_true, decide_eq_true_eq]
            try (first | rfl | (congr; done) | ((repeat' split) <;> omega))
          have hc2 : E.i ρ (.ite (.bin .and (.bin .lt (.c 0) (.v 1265140037774112887)) (.bv 1613713519806856232)) (.bin .add (.v 334445701916657824) (.c 1)) (.v 334445701916657824)) = pspr g t r x 2 := by
            simp only [E.i, E.b, k1, k4, k7, k10, k13, k14, k15, k16, k19, k22, k25, k28, k29, k30, k31, pspr, pleft, Bool.and_eq_true, decide_eq_true_eq]
            try (first | rfl | (congr; done) | ((repeat' split) <;> omega))
          have hc3 : E.i ρ (.v 468382183674647108) = pspr g t r x 3 := by
            simp only [E.i, E.b, k1, k4, k7, k10, k13, k14, k15, k16, k19, k22, k25, k28, k29, k30, k31, pspr, pleft, Bool.and_eq_true, decide_eq_true_eq]
            try (first | rfl | (congr; done) | ((repeat' split) <;> omega)))
        · have := pspr_bd (g := g) x (b3 0 (by omega))
          exact fit_of (z := pspr g t r x 0) hc0 (by show (-1000 : Int) ≤ _; omega) (by show _ ≤ (1001 : Int); omega)
        · have := pspr_bd (g := g) x (b3 1 (by omega))
          exact fit_of (z := pspr g t r x 1) hc1 (by show (-1000 : Int) ≤ _; omega) (by show _ ≤ (1001 : Int); omega)
        · have := pspr_bd (g := g) x (b3 2 (by omega))
          exact fit_of (z := pspr g t r x 2) hc2 (by show (-1000 : Int) ≤ _; omega) (by show _ ≤ (1001 : Int); omega)
        · have := pspr_bd (g := g) x (b3 3 (by omega))
          exact fit_of (z := pspr g t r x 3) hc3 (by show (-1000 : Int) ≤ _; omega) (by show _ ≤ (1001 : Int); omega)
        · have eL : psprL g t r x = [pspr g t r x 0, pspr g t r x 1, pspr g t r x 2, pspr g t r x 3] := by
            unfold psprL
            rw [hn]
            rfl
          rw [eL]
          refine newList_grow (cells := [.int .i64 ⟨.v 900, -1000, 1001⟩, .int .i64 ⟨.v 901, -1000, 1001⟩, .int .i64 ⟨.v 902, -1000, 1001⟩, .int .i64 ⟨.v 903, -1000, 1001⟩]) hr.heap (m := 8) (by kernel_rfl) rfl rfl ?_
          intro i v z h1 h2
          match i, h1, h2 with
          | 0, h1, h2 => cases h1; cases h2; show Value.int .i64 (E.i ρ (.ite (.bin .and (.bin .lt (.c 0) (.v 157797374496499192)) (.bv 782741206561574860)) (.bin .add (.v 9375996378674662) (.c 1)) (.v 9375996378674662))) = _; rw [hc0]
          | 1, h1, h2 => cases h1; cases h2; show Value.int .i64 (E.i ρ (.v 1293947935901521602)) = _; rw [hc1]
          | 2, h1, h2 => cases h1; cases h2; show Value.int .i64 (E.i ρ (.ite (.bin .and (.bin .lt (.c 0) (.v 1265140037774112887)) (.bv 1613713519806856232)) (.bin .add (.v 334445701916657824) (.c 1)) (.v 334445701916657824))) = _; rw [hc2]
          | 3, h1, h2 => cases h1; cases h2; show Value.int .i64 (E.i ρ (.v 468382183674647108)) = _; rw [hc3]
          | i + 4, h1, h2 => cases h1)
    h0 ⟨fun _ => 0, fun _ => 0, fun _ => 0⟩ (noHeap _ _ _ _) (by
          refine ⟨⟨⟨?_, ?_⟩, ⟨?_, ?_⟩, ⟨?_, ?_⟩, ⟨?_, ?_⟩, trivial⟩, s1, ⟨?_, ?_⟩, trivial⟩
          all_goals simp only [E.i, h0.e20, h0.e21, h0.e22, h0.e23, h0.e24]
          all_goals omega) hm
  have e : SV.denL ρ0 ⟨fun _ => 0, fun _ => 0, fun _ => 0⟩ sR4Args = [.agg #[.int .i64 t, .int .i64 r, .int .i64 s, .int .i64 c], .slice g.A g.n g.c, .int .i64 x] := by
    unfold sR4Args
    simp only [SV.denL]
    simp only [den_agg, SV.denL, den_int, E.i, h0.e20, h0.e21, h0.e22, h0.e23, h0.e24]
    rw [s2]
  rw [e] at key
  exact key
end Go.Proofs.Ytdfpenjhpemokaa.Sx
