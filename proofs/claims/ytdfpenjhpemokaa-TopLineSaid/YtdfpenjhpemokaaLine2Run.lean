/-
  Lines: worked out. Written by a program of ours (wip/dev/sx).
-/
import Derived.Test.YtdfpenjhpemokaaLineI
import Derived.Test.YtdfpenjhpemokaaProg
set_option linter.unusedVariables false
set_option linter.unusedSimpArgs false
namespace Go.Proofs.Ytdfpenjhpemokaa.Sx
def tcKeeps : List (Nat × List (Nat × List Nat)) := [(81, [(0, [1]), (1, [1, 10]), (2, [2]), (3, [1, 3]), (4, [1, 3, 16]), (5, [2]), (6, [2])]),
  (150, [(0, [0]), (1, [0, 7]), (2, [2]), (3, [0, 11]), (4, [2]), (5, [0, 3]), (6, [0, 3, 16]), (7, [2]), (8, [0, 4]), (9, [0, 4, 21]), (10, [0, 4]), (11, [0, 4, 33]), (12, [2]), (13, [2])]),
  (151, [(0, [0]), (1, [5, 6, 7]), (2, [5, 6, 7, 8]), (3, [4, 5, 6, 7]), (4, [5, 6, 7, 16]), (5, [2]), (6, [5, 6, 7]), (7, [2])])]
def tcArgs : List SV := [.agg [.osl 0 [.int .i64 (-9223372036854775808) 9223372036854775807] ⟨(.v 4), 0, 1000⟩, .osl 1 [.int .i64 (-9223372036854775808) 9223372036854775807] ⟨(.v 6), 0, 1000⟩]]
def tcL0 : List LS := [⟨[], .ret, ⟨[(2, ⟨[], .err ⟨(.v 900), 0, 5⟩⟩)], [], 0, 21⟩, ⟨[(900, (.ite (.un .not (.bin .eq (.v 4) (.v 6))) (.c 3) (.v 1768319584019362276)))], []⟩⟩]
def tcV0 : List VC := [⟨[], (.bin .eq (.v 1768319584019362276) (.ite (.un .not (.bin .eq (.ap 61 (.cons (.c 0) .nil)) (.c 0))) (.ap 61 (.cons (.c 0) .nil)) (.ap 60 (.cons (.c 1) .nil))))⟩]
theorem tc_ran0 : ran (runP Try.prog 23 (cfgK tcSum tcKeeps 50 12) 81 (partsOf Try.prog 81) (start Try.prog 81 tcArgs [] 0)) tcL0 tcV0 = true := by kernel_rfl
def tcW0 : List VC := []
theorem tc_defs0 : defs tcV0 [] [] = tcW0 := by kernel_rfl
theorem tc_no0 : tcW0.all VC.isNo = true := by kernel_rfl
theorem tc_w0 (ρ : Env) : andV ρ tcW0 = (True) := by kernel_rfl
theorem tc_says0 (ρ : Env) : saysL ρ tcV0 = (ρ.iv 1768319584019362276 = (if (!(decide ((ρ.fn 61 ((0 : Int) :: [])) = (0 : Int)))) = true then (ρ.fn 61 ((0 : Int) :: [])) else (ρ.fn 60 ((1 : Int) :: []))) ∧
  True) := by kernel_rfl
theorem tc_0_pc0 (ρ : Env) : andB ρ [] = (True) := by kernel_rfl
def lmKeeps : List (Nat × List (Nat × List Nat)) := [(30, [(0, [0, 1]), (1, [1, 5]), (2, [4]), (3, [4])]),
  (39, [(0, [0]), (1, [0, 3]), (2, [0, 3, 7]), (3, [0, 3]), (4, [0, 3, 14]), (5, [2]), (6, [2])]),
  (47, [(0, [0, 1, 2]), (1, [6])]),
  (78, [(0, [1]), (1, [2])]),
  (146, [(0, [0]), (1, [0, 3]), (2, [0, 3, 4]), (3, [0, 3, 4, 8]), (4, [0, 3, 4]), (5, [0, 3, 4]), (6, [2])]),
  (147, [(0, [0]), (1, [0, 3]), (2, [0, 3, 7]), (3, [0, 3]), (4, [0, 3, 15]), (5, [2]), (6, [2])])]
def lmArgs : List SV := [.agg [.osl 0 [.int .i64 (-9223372036854775808) 9223372036854775807] ⟨(.v 4), 0, 1000⟩, .osl 1 [.int .i64 (-9223372036854775808) 9223372036854775807] ⟨(.v 6), 0, 1000⟩]]
def lmL0 : List LS := [⟨[], .ret, ⟨[(2, ⟨[], .int .i64 ⟨(.v 900), 0, 5⟩⟩)], [], 0, 19⟩, ⟨[(900, (.v 382609464082087397))], []⟩⟩]
def lmV0 : List VC := [⟨[], (.bin .eq (.v 382609464082087397) (.ite (.un .not (.bin .eq (.ite (.un .not (.bin .eq (.v 4) (.v 6))) (.c 3) (.c 0)) (.c 0))) (.ite (.un .not (.bin .eq (.v 4) (.v 6))) (.c 3) (.c 0)) (.ite (.un .not (.bin .eq (.ap 61 (.cons (.c 0) .nil)) (.c 0))) (.ap 61 (.cons (.c 0) .nil)) (.ite (.un .not (.bin .eq (.ap 60 (.cons (.c 1) .nil)) (.c 0))) (.ap 60 (.cons (.c 1) .nil)) (.c 0)))))⟩,
  ⟨[], (.bin .eq (.v 1982384564458031113) (.ite (.un .not (.bin .eq (.ite (.un .not (.bin .eq (.v 4) (.v 6))) (.c 3) (.c 0)) (.c 0))) (.ite (.un .not (.bin .eq (.v 4) (.v 6))) (.c 3) (.c 0)) (.c 0)))⟩,
  ⟨[], (.bin .eq (.v 963798803453547861) (.ite (.un .not (.bin .eq (.ite (.un .not (.bin .eq (.v 4) (.v 6))) (.c 3) (.c 0)) (.c 0))) (.ap 61 (.cons (.c 0) .nil)) (.ite (.un .not (.bin .eq (.ap 61 (.cons (.c 0) .nil)) (.c 0))) (.ap 61 (.cons (.c 0) .nil)) (.c 0))))⟩,
  ⟨[], (.bin .eq (.v 1244526461393872718) (.ite (.un .not (.bin .eq (.ite (.un .not (.bin .eq (.v 4) (.v 6))) (.c 3) (.c 0)) (.c 0))) (.ap 60 (.cons (.c 1) .nil)) (.ite (.un .not (.bin .eq (.ap 61 (.cons (.c 0) .nil)) (.c 0))) (.ap 60 (.cons (.c 1) .nil)) (.ite (.un .not (.bin .eq (.ap 60 (.cons (.c 1) .nil)) (.c 0))) (.ap 60 (.cons (.c 1) .nil)) (.c 0)))))⟩]
theorem lm_ran0 : ran (runP Try.prog 23 (cfgK lmSum lmKeeps 50 12) 78 (partsOf Try.prog 78) (start Try.prog 78 lmArgs [] 0)) lmL0 lmV0 = true := by kernel_rfl
def lmW0 : List VC := []
theorem lm_defs0 : defs lmV0 [] [] = lmW0 := by kernel_rfl
theorem lm_no0 : lmW0.all VC.isNo = true := by kernel_rfl
theorem lm_w0 (ρ : Env) : andV ρ lmW0 = (True) := by kernel_rfl
theorem lm_says0 (ρ : Env) : saysL ρ lmV0 = (ρ.iv 382609464082087397 = (if (!(decide ((if (!(decide ((ρ.iv 4) = (ρ.iv 6)))) = true then (3 : Int) else (0 : Int)) = (0 : Int)))) = true then (if (!(decide ((ρ.iv 4) = (ρ.iv 6)))) = true then (3 : Int) else (0 : Int)) else (if (!(decide ((ρ.fn 61 ((0 : Int) :: [])) = (0 : Int)))) = true then (ρ.fn 61 ((0 : Int) :: [])) else (if (!(decide ((ρ.fn 60 ((1 : Int) :: [])) = (0 : Int)))) = true then (ρ.fn 60 ((1 : Int) :: [])) else (0 : Int)))) ∧
  ρ.iv 1982384564458031113 = (if (!(decide ((if (!(decide ((ρ.iv 4) = (ρ.iv 6)))) = true then (3 : Int) else (0 : Int)) = (0 : Int)))) = true then (if (!(decide ((ρ.iv 4) = (ρ.iv 6)))) = true then (3 : Int) else (0 : Int)) else (0 : Int)) ∧
  ρ.iv 963798803453547861 = (if (!(decide ((if (!(decide ((ρ.iv 4) = (ρ.iv 6)))) = true then (3 : Int) else (0 : Int)) = (0 : Int)))) = true then (ρ.fn 61 ((0 : Int) :: [])) else (if (!(decide ((ρ.fn 61 ((0 : Int) :: [])) = (0 : Int)))) = true then (ρ.fn 61 ((0 : Int) :: [])) else (0 : Int))) ∧
  ρ.iv 1244526461393872718 = (if (!(decide ((if (!(decide ((ρ.iv 4) = (ρ.iv 6)))) = true then (3 : Int) else (0 : Int)) = (0 : Int)))) = true then (ρ.fn 60 ((1 : Int) :: [])) else (if (!(decide ((ρ.fn 61 ((0 : Int) :: [])) = (0 : Int)))) = true then (ρ.fn 60 ((1 : Int) :: [])) else (if (!(decide ((ρ.fn 60 ((1 : Int) :: [])) = (0 : Int)))) = true then (ρ.fn 60 ((1 : Int) :: [])) else (0 : Int)))) ∧
  True) := by kernel_rfl
theorem lm_0_pc0 (ρ : Env) : andB ρ [] = (True) := by kernel_rfl
def tlKeeps : List (Nat × List (Nat × List Nat)) := [(133, [(0, [0, 1, 2]), (1, [0, 1, 2, 14]), (2, [6]), (3, [0, 2, 18]), (4, [6]), (5, [6])]),
  (149, [(0, [1, 2]), (1, [1, 2]), (2, [1, 2, 5]), (3, [1, 2, 5, 6]), (4, [4])]),
  (153, [(0, [0, 1]), (1, [0, 1, 5]), (2, [0, 1, 5, 19]), (3, [0, 1, 5]), (4, [4])]),
  (154, [(0, [0, 1]), (1, [4])]),
  (172, [(0, [0, 1]), (1, [0, 1, 5]), (2, [5, 12]), (3, [5]), (4, [4])])]
def tlArgs : List SV := [.agg [.osl 0 [.int .i64 (-9223372036854775808) 9223372036854775807] ⟨(.v 4), 0, 1000⟩, .osl 1 [.int .i64 (-9223372036854775808) 9223372036854775807] ⟨(.v 6), 0, 1000⟩], .int .i64 ⟨(.v 5), (-9223372036854775808), 9223372036854775807⟩]
def tlL0 : List LS := [⟨[], .ret, ⟨[(4, ⟨[], .int .i64 ⟨(.v 900), (-9223372036854775808), 9223372036854775807⟩⟩)], [], 0, 65⟩, ⟨[(900, (.v 915445799494490897))], []⟩⟩]
def tlV0 : List VC := [⟨[], (.bin .lt (.c 0) (.v 4))⟩,
  ⟨[], (.bin .lt (.bin .sub (.v 4) (.c 1)) (.v 4))⟩,
  ⟨[], (.bin .le (.c 0) (.bin .sub (.v 4) (.c 1)))⟩,
  ⟨[], (.bin .eq (.v 406760521677086309) (.ite (.bin .lt (.ap 1000 (.cons (.bin .sub (.v 4) (.c 1)) .nil)) (.v 5)) (.ap 1000 (.cons (.bin .sub (.v 4) (.c 1)) .nil)) (.v 5)))⟩,
  ⟨[], (.bin .eq (.v 1925275249256039237) (.ite (.bin .or (.bin .lt (.v 5) (.ap 1000 (.cons (.c 0) .nil))) (.bin .lt (.ap 1000 (.cons (.bin .sub (.v 4) (.c 1)) .nil)) (.ap 1000 (.cons (.c 0) .nil)))) (.ap 1000 (.cons (.c 0) .nil)) (.v 406760521677086309)))⟩,
  ⟨[], (.bin .lt (.bin .add (.ap 63 (.cons (.c 0) (.cons (.v 1925275249256039237) .nil))) (.c 1)) (.v 4))⟩,
  ⟨[], (.bin .lt (.ap 63 (.cons (.c 0) (.cons (.v 1925275249256039237) .nil))) (.v 4))⟩,
  ⟨[], (.bin .eq (.v 595631312192478834) (.un (.wrap .i64) (.bin .sub (.ap 1000 (.cons (.bin .add (.ap 63 (.cons (.c 0) (.cons (.v 1925275249256039237) .nil))) (.c 1)) .nil)) (.ap 1000 (.cons (.ap 63 (.cons (.c 0) (.cons (.v 1925275249256039237) .nil))) .nil)))))⟩,
  ⟨[], (.bin .lt (.ap 63 (.cons (.c 0) (.cons (.v 1925275249256039237) .nil))) (.v 6))⟩,
  ⟨[], (.bin .eq (.v 735445962742978841) (.un (.wrap .i64) (.bin .sub (.v 1925275249256039237) (.ap 1000 (.cons (.ap 63 (.cons (.c 0) (.cons (.v 1925275249256039237) .nil))) .nil)))))⟩,
  ⟨[], (.bin .lt (.bin .add (.ap 63 (.cons (.c 0) (.cons (.v 1925275249256039237) .nil))) (.c 1)) (.v 6))⟩,
  ⟨[], (.bin .eq (.v 1102493519344395515) (.un (.wrap .i64) (.bin .sub (.ap 1100 (.cons (.bin .add (.ap 63 (.cons (.c 0) (.cons (.v 1925275249256039237) .nil))) (.c 1)) .nil)) (.ap 1100 (.cons (.ap 63 (.cons (.c 0) (.cons (.v 1925275249256039237) .nil))) .nil)))))⟩,
  ⟨[], (.bin .lt (.c 0) (.v 595631312192478834))⟩,
  ⟨[], (.bin .le (.v 595631312192478834) (.c 4000000000000))⟩,
  ⟨[], (.bin .le (.c (-4400000000000000000)) (.un (.wrap .i64) (.bin .mul (.v 735445962742978841) (.v 1102493519344395515))))⟩,
  ⟨[], (.bin .le (.un (.wrap .i64) (.bin .mul (.v 735445962742978841) (.v 1102493519344395515))) (.c 4400000000000000000))⟩,
  ⟨[], (.bin .eq (.v 915445799494490897) (.un (.wrap .i64) (.bin .add (.ap 1100 (.cons (.ap 63 (.cons (.c 0) (.cons (.v 1925275249256039237) .nil))) .nil)) (.ap 50 (.cons (.un (.wrap .i64) (.bin .mul (.v 735445962742978841) (.v 1102493519344395515))) (.cons (.v 595631312192478834) .nil))))))⟩]
theorem tl_ran0 : ran (runP Try.prog 23 (cfgK tlSum tlKeeps 50 12) 149 (partsOf Try.prog 149) (start Try.prog 149 tlArgs [] 0)) tlL0 tlV0 = true := by kernel_rfl
def tlW0 : List VC := [⟨[], (.bin .lt (.c 0) (.v 4))⟩, ⟨[], (.bin .lt (.bin .sub (.v 4) (.c 1)) (.v 4))⟩, ⟨[], (.bin .le (.c 0) (.bin .sub (.v 4) (.c 1)))⟩, ⟨[], (.bin .lt (.bin .add (.ap 63 (.cons (.c 0) (.cons (.v 1925275249256039237) .nil))) (.c 1)) (.v 4))⟩, ⟨[], (.bin .lt (.ap 63 (.cons (.c 0) (.cons (.v 1925275249256039237) .nil))) (.v 4))⟩, ⟨[], (.bin .lt (.ap 63 (.cons (.c 0) (.cons (.v 1925275249256039237) .nil))) (.v 6))⟩, ⟨[], (.bin .lt (.bin .add (.ap 63 (.cons (.c 0) (.cons (.v 1925275249256039237) .nil))) (.c 1)) (.v 6))⟩, ⟨[], (.bin .lt (.c 0) (.v 595631312192478834))⟩, ⟨[], (.bin .le (.v 595631312192478834) (.c 4000000000000))⟩, ⟨[], (.bin .le (.c (-4400000000000000000)) (.un (.wrap .i64) (.bin .mul (.v 735445962742978841) (.v 1102493519344395515))))⟩, ⟨[], (.bin .le (.un (.wrap .i64) (.bin .mul (.v 735445962742978841) (.v 1102493519344395515))) (.c 4400000000000000000))⟩]
theorem tl_defs0 : defs tlV0 [] [] = tlW0 := by kernel_rfl
theorem tl_no0 : tlW0.all VC.isNo = true := by kernel_rfl
theorem tl_w0 (ρ : Env) : andV ρ tlW0 = ((True → (decide ((0 : Int) < (ρ.iv 4))) = true) ∧ (True → (decide (((ρ.iv 4) - (1 : Int)) < (ρ.iv 4))) = true) ∧ (True → (decide ((0 : Int) ≤ ((ρ.iv 4) - (1 : Int)))) = true) ∧ (True → (decide (((ρ.fn 63 ((0 : Int) :: ((ρ.iv 1925275249256039237) :: []))) + (1 : Int)) < (ρ.iv 4))) = true) ∧ (True → (decide ((ρ.fn 63 ((0 : Int) :: ((ρ.iv 1925275249256039237) :: []))) < (ρ.iv 4))) = true) ∧ (True → (decide ((ρ.fn 63 ((0 : Int) :: ((ρ.iv 1925275249256039237) :: []))) < (ρ.iv 6))) = true) ∧ (True → (decide (((ρ.fn 63 ((0 : Int) :: ((ρ.iv 1925275249256039237) :: []))) + (1 : Int)) < (ρ.iv 6))) = true) ∧ (True → (decide ((0 : Int) < (ρ.iv 595631312192478834))) = true) ∧ (True → (decide ((ρ.iv 595631312192478834) ≤ (4000000000000 : Int))) = true) ∧ (True → (decide ((-4400000000000000000 : Int) ≤ (IntKind.wrap .i64 ((ρ.iv 735445962742978841) * (ρ.iv 1102493519344395515))))) = true) ∧ (True → (decide ((IntKind.wrap .i64 ((ρ.iv 735445962742978841) * (ρ.iv 1102493519344395515))) ≤ (4400000000000000000 : Int))) = true) ∧ True) := by kernel_rfl
theorem tl_says0 (ρ : Env) : saysL ρ tlV0 = (True ∧
  True ∧
  True ∧
  ρ.iv 406760521677086309 = (if (decide ((ρ.fn 1000 (((ρ.iv 4) - (1 : Int)) :: [])) < (ρ.iv 5))) = true then (ρ.fn 1000 (((ρ.iv 4) - (1 : Int)) :: [])) else (ρ.iv 5)) ∧
  ρ.iv 1925275249256039237 = (if ((decide ((ρ.iv 5) < (ρ.fn 1000 ((0 : Int) :: [])))) || (decide ((ρ.fn 1000 (((ρ.iv 4) - (1 : Int)) :: [])) < (ρ.fn 1000 ((0 : Int) :: []))))) = true then (ρ.fn 1000 ((0 : Int) :: [])) else (ρ.iv 406760521677086309)) ∧
  True ∧
  True ∧
  ρ.iv 595631312192478834 = (IntKind.wrap .i64 ((ρ.fn 1000 (((ρ.fn 63 ((0 : Int) :: ((ρ.iv 1925275249256039237) :: []))) + (1 : Int)) :: [])) - (ρ.fn 1000 ((ρ.fn 63 ((0 : Int) :: ((ρ.iv 1925275249256039237) :: []))) :: [])))) ∧
  True ∧
  ρ.iv 735445962742978841 = (IntKind.wrap .i64 ((ρ.iv 1925275249256039237) - (ρ.fn 1000 ((ρ.fn 63 ((0 : Int) :: ((ρ.iv 1925275249256039237) :: []))) :: [])))) ∧
  True ∧
  ρ.iv 1102493519344395515 = (IntKind.wrap .i64 ((ρ.fn 1100 (((ρ.fn 63 ((0 : Int) :: ((ρ.iv 1925275249256039237) :: []))) + (1 : Int)) :: [])) - (ρ.fn 1100 ((ρ.fn 63 ((0 : Int) :: ((ρ.iv 1925275249256039237) :: []))) :: [])))) ∧
  True ∧
  True ∧
  True ∧
  True ∧
  ρ.iv 915445799494490897 = (IntKind.wrap .i64 ((ρ.fn 1100 ((ρ.fn 63 ((0 : Int) :: ((ρ.iv 1925275249256039237) :: []))) :: [])) + (ρ.fn 50 ((IntKind.wrap .i64 ((ρ.iv 735445962742978841) * (ρ.iv 1102493519344395515))) :: ((ρ.iv 595631312192478834) :: []))))) ∧
  True) := by kernel_rfl
theorem tl_0_pc0 (ρ : Env) : andB ρ [] = (True) := by kernel_rfl
def tiKeeps : List (Nat × List (Nat × List Nat)) := [(81, [(0, [1]), (1, [1, 10]), (2, [2]), (3, [1, 3]), (4, [1, 3, 16]), (5, [2]), (6, [2])]),
  (82, [(0, [1]), (1, [1, 6]), (2, [2]), (3, [1, 3]), (4, [1, 3, 11]), (5, [1, 3]), (6, [1, 3, 25]), (7, [2]), (8, [2])]),
  (150, [(0, [0]), (1, [0, 7]), (2, [2]), (3, [0, 11]), (4, [2]), (5, [0, 3]), (6, [0, 3, 16]), (7, [2]), (8, [0, 4]), (9, [0, 4, 21]), (10, [0, 4]), (11, [0, 4, 33]), (12, [2]), (13, [2])]),
  (151, [(0, [0]), (1, [5, 6, 7]), (2, [5, 6, 7, 8]), (3, [4, 5, 6, 7]), (4, [5, 6, 7, 16]), (5, [2]), (6, [5, 6, 7]), (7, [2])])]
def tiArgs : List SV := [.agg [.osl 0 [.int .i64 (-9223372036854775808) 9223372036854775807] ⟨(.v 4), 0, 1000⟩, .osl 1 [.int .i64 (-9223372036854775808) 9223372036854775807] ⟨(.v 6), 0, 1000⟩]]
def tiS1 : St := ⟨[(3, ⟨[], .int .i64 ⟨(.v 13), 1, 1000⟩⟩), (1, ⟨[], .ptr 0 0⟩)], [(0, ⟨[], ⟨[.osl 0 [.int .i64 (-9223372036854775808) 9223372036854775807] ⟨(.v 4), 0, 1000⟩, .osl 1 [.int .i64 (-9223372036854775808) 9223372036854775807] ⟨(.v 6), 0, 1000⟩], 81, .full⟩⟩)], 1, 26⟩
def tiL0 : List LS := [⟨[(.un .not (.bin .eq (.ap 62 (.cons (.c 0) (.cons (.c 1) .nil))) (.c 0)))], .ret, ⟨[(2, ⟨[], .bool (.bc false)⟩)], [], 0, 26⟩, ⟨[], []⟩⟩,
  ⟨[(.bin .eq (.ap 62 (.cons (.c 0) (.cons (.c 1) .nil))) (.c 0))], .normal, tiS1, ⟨[(13, (.c 1))], []⟩⟩]
def tiV0 : List VC := []
theorem ti_ran0 : ran (runP Try.prog 23 (cfgK tiSum tiKeeps 50 12) 82 (partOf Try.prog 82 0 4) (start Try.prog 82 tiArgs [] 0)) tiL0 tiV0 = true := by kernel_rfl
def tiW0 : List VC := []
theorem ti_defs0 : defs tiV0 [] [] = tiW0 := by kernel_rfl
theorem ti_no0 : tiW0.all VC.isNo = true := by kernel_rfl
theorem ti_w0 (ρ : Env) : andV ρ tiW0 = (True) := by kernel_rfl
theorem ti_says0 (ρ : Env) : saysL ρ tiV0 = (True) := by kernel_rfl
theorem ti_0_pc0 (ρ : Env) : andB ρ [(.un .not (.bin .eq (.ap 62 (.cons (.c 0) (.cons (.c 1) .nil))) (.c 0)))] = ((!(decide ((ρ.fn 62 ((0 : Int) :: ((1 : Int) :: []))) = (0 : Int)))) = true ∧ True) := by kernel_rfl
theorem ti_0_pc1 (ρ : Env) : andB ρ [(.bin .eq (.ap 62 (.cons (.c 0) (.cons (.c 1) .nil))) (.c 0))] = ((decide ((ρ.fn 62 ((0 : Int) :: ((1 : Int) :: []))) = (0 : Int))) = true ∧ True) := by kernel_rfl
def tiL1 : List LS := [⟨[(.bin .lt (.ap 1100 (.cons (.v 13) .nil)) (.ap 1100 (.cons (.bin .sub (.v 13) (.c 1)) .nil))), (.bin .lt (.v 13) (.v 6))], .ret, ⟨[(2, ⟨[], .bool (.bc false)⟩)], [], 0, 26⟩, ⟨[], []⟩⟩,
  ⟨[(.bin .le (.ap 1100 (.cons (.bin .sub (.v 13) (.c 1)) .nil)) (.ap 1100 (.cons (.v 13) .nil))), (.bin .lt (.v 13) (.v 6))], .normal, tiS1, ⟨[(13, (.bin .add (.v 13) (.c 1)))], []⟩⟩,
  ⟨[(.bin .le (.v 6) (.v 13))], (.exit 0), tiS1, ⟨[], []⟩⟩]
def tiV1 : List VC := [⟨[(.bin .lt (.v 13) (.v 6))], (.bin .lt (.bin .sub (.v 13) (.c 1)) (.v 6))⟩]
theorem ti_ran1 : ran (runP Try.prog 23 (cfgK tiSum tiKeeps 50 12) 82 (loopOf Try.prog 82 4) tiS1) tiL1 tiV1 = true := by kernel_rfl
def tiW1 : List VC := [⟨[(.bin .lt (.v 13) (.v 6))], (.bin .lt (.bin .sub (.v 13) (.c 1)) (.v 6))⟩]
theorem ti_defs1 : defs tiV1 [] [] = tiW1 := by kernel_rfl
theorem ti_no1 : tiW1.all VC.isNo = true := by kernel_rfl
theorem ti_w1 (ρ : Env) : andV ρ tiW1 = (((decide ((ρ.iv 13) < (ρ.iv 6))) = true ∧ True → (decide (((ρ.iv 13) - (1 : Int)) < (ρ.iv 6))) = true) ∧ True) := by kernel_rfl
theorem ti_says1 (ρ : Env) : saysL ρ tiV1 = (True ∧
  True) := by kernel_rfl
theorem ti_1_pc0 (ρ : Env) : andB ρ [(.bin .lt (.ap 1100 (.cons (.v 13) .nil)) (.ap 1100 (.cons (.bin .sub (.v 13) (.c 1)) .nil))), (.bin .lt (.v 13) (.v 6))] = ((decide ((ρ.fn 1100 ((ρ.iv 13) :: [])) < (ρ.fn 1100 (((ρ.iv 13) - (1 : Int)) :: [])))) = true ∧ (decide ((ρ.iv 13) < (ρ.iv 6))) = true ∧ True) := by kernel_rfl
theorem ti_1_pc1 (ρ : Env) : andB ρ [(.bin .le (.ap 1100 (.cons (.bin .sub (.v 13) (.c 1)) .nil)) (.ap 1100 (.cons (.v 13) .nil))), (.bin .lt (.v 13) (.v 6))] = ((decide ((ρ.fn 1100 (((ρ.iv 13) - (1 : Int)) :: [])) ≤ (ρ.fn 1100 ((ρ.iv 13) :: [])))) = true ∧ (decide ((ρ.iv 13) < (ρ.iv 6))) = true ∧ True) := by kernel_rfl
theorem ti_1_pc2 (ρ : Env) : andB ρ [(.bin .le (.v 6) (.v 13))] = ((decide ((ρ.iv 6) ≤ (ρ.iv 13))) = true ∧ True) := by kernel_rfl
def tiL2 : List LS := [⟨[], .ret, ⟨[(2, ⟨[], .bool (.bc true)⟩)], [], 0, 26⟩, ⟨[], []⟩⟩]
def tiV2 : List VC := []
theorem ti_ran2 : ran (runP Try.prog 23 (cfgK tiSum tiKeeps 50 12) 82 (partOf Try.prog 82 5 7) tiS1) tiL2 tiV2 = true := by kernel_rfl
def tiW2 : List VC := []
theorem ti_defs2 : defs tiV2 [] [] = tiW2 := by kernel_rfl
theorem ti_no2 : tiW2.all VC.isNo = true := by kernel_rfl
theorem ti_w2 (ρ : Env) : andV ρ tiW2 = (True) := by kernel_rfl
theorem ti_says2 (ρ : Env) : saysL ρ tiV2 = (True) := by kernel_rfl
theorem ti_2_pc0 (ρ : Env) : andB ρ [] = (True) := by kernel_rfl
def rlKeeps : List (Nat × List (Nat × List Nat)) := [(64, [(0, [0, 1]), (1, [0, 1]), (2, [0, 1, 9]), (3, [0]), (4, [4])]),
  (79, [(0, [1, 2]), (1, [1, 2, 5]), (2, [1, 2, 5, 18]), (3, [4]), (4, [1, 2, 5, 29]), (5, [4]), (6, [1, 2, 6]), (7, [1, 2, 6, 42]), (8, [1, 2, 6]), (9, [1, 2, 6, 7]), (10, [4])]),
  (142, [(0, [0, 1]), (1, [4])]),
  (148, [(0, [0, 1]), (1, [4])])]
def rlArgs : List SV := [.agg [.osl 0 [.int .i64 (-9223372036854775808) 9223372036854775807] ⟨(.v 4), 0, 1000⟩, .osl 1 [.int .i64 (-9223372036854775808) 9223372036854775807] ⟨(.v 6), 0, 1000⟩], .int .i64 ⟨(.v 5), (-9223372036854775808), 9223372036854775807⟩]
def rlS1 : St := ⟨[(6, ⟨[], .int .i64 ⟨(.v 13), 0, 1000⟩⟩), (2, ⟨[], .ptr 0 0⟩), (1, ⟨[], .int .i64 ⟨(.v 5), (-9223372036854775808), 9223372036854775807⟩⟩)], [(0, ⟨[], ⟨[.osl 0 [.int .i64 (-9223372036854775808) 9223372036854775807] ⟨(.v 4), 0, 1000⟩, .osl 1 [.int .i64 (-9223372036854775808) 9223372036854775807] ⟨(.v 6), 0, 1000⟩], 81, .full⟩⟩)], 1, 88⟩
def rlL0 : List LS := [⟨[(.bin .le (.ap 1000 (.cons (.bin .sub (.v 4) (.c 1)) .nil)) (.v 5))], .ret, ⟨[(4, ⟨[], .int .i64 ⟨(.v 900), (-9223372036854775808), 9223372036854775807⟩⟩)], [], 0, 88⟩, ⟨[(900, (.ap 1100 (.cons (.bin .sub (.v 4) (.c 1)) .nil)))], []⟩⟩,
  ⟨[(.bin .le (.v 5) (.ap 1000 (.cons (.c 0) .nil))), (.bin .lt (.v 5) (.ap 1000 (.cons (.bin .sub (.v 4) (.c 1)) .nil)))], .ret, ⟨[(4, ⟨[], .int .i64 ⟨(.v 900), (-9223372036854775808), 9223372036854775807⟩⟩)], [], 0, 88⟩, ⟨[(900, (.ap 1100 (.cons (.c 0) .nil)))], []⟩⟩,
  ⟨[(.bin .lt (.ap 1000 (.cons (.c 0) .nil)) (.v 5)), (.bin .lt (.v 5) (.ap 1000 (.cons (.bin .sub (.v 4) (.c 1)) .nil)))], .normal, rlS1, ⟨[(13, (.bin .sub (.v 4) (.c 2)))], []⟩⟩]
def rlV0 : List VC := [⟨[], (.bin .lt (.bin .sub (.v 4) (.c 1)) (.v 4))⟩,
  ⟨[], (.bin .le (.c 0) (.bin .sub (.v 4) (.c 1)))⟩,
  ⟨[(.bin .le (.ap 1000 (.cons (.bin .sub (.v 4) (.c 1)) .nil)) (.v 5))], (.bin .lt (.bin .sub (.v 4) (.c 1)) (.v 6))⟩,
  ⟨[(.bin .le (.ap 1000 (.cons (.bin .sub (.v 4) (.c 1)) .nil)) (.v 5))], (.bin .le (.c 0) (.bin .sub (.v 4) (.c 1)))⟩,
  ⟨[(.bin .lt (.v 5) (.ap 1000 (.cons (.bin .sub (.v 4) (.c 1)) .nil)))], (.bin .lt (.c 0) (.v 4))⟩,
  ⟨[(.bin .le (.v 5) (.ap 1000 (.cons (.c 0) .nil))), (.bin .lt (.v 5) (.ap 1000 (.cons (.bin .sub (.v 4) (.c 1)) .nil)))], (.bin .lt (.c 0) (.v 6))⟩]
theorem rl_ran0 : ran (runP Try.prog 23 (cfgK rlSum rlKeeps 50 12) 79 (partOf Try.prog 79 0 7) (start Try.prog 79 rlArgs [] 0)) rlL0 rlV0 = true := by kernel_rfl
def rlW0 : List VC := [⟨[], (.bin .lt (.bin .sub (.v 4) (.c 1)) (.v 4))⟩, ⟨[], (.bin .le (.c 0) (.bin .sub (.v 4) (.c 1)))⟩, ⟨[(.bin .le (.ap 1000 (.cons (.bin .sub (.v 4) (.c 1)) .nil)) (.v 5))], (.bin .lt (.bin .sub (.v 4) (.c 1)) (.v 6))⟩, ⟨[(.bin .le (.ap 1000 (.cons (.bin .sub (.v 4) (.c 1)) .nil)) (.v 5))], (.bin .le (.c 0) (.bin .sub (.v 4) (.c 1)))⟩, ⟨[(.bin .lt (.v 5) (.ap 1000 (.cons (.bin .sub (.v 4) (.c 1)) .nil)))], (.bin .lt (.c 0) (.v 4))⟩, ⟨[(.bin .le (.v 5) (.ap 1000 (.cons (.c 0) .nil))), (.bin .lt (.v 5) (.ap 1000 (.cons (.bin .sub (.v 4) (.c 1)) .nil)))], (.bin .lt (.c 0) (.v 6))⟩]
theorem rl_defs0 : defs rlV0 [] [] = rlW0 := by kernel_rfl
theorem rl_no0 : rlW0.all VC.isNo = true := by kernel_rfl
theorem rl_w0 (ρ : Env) : andV ρ rlW0 = ((True → (decide (((ρ.iv 4) - (1 : Int)) < (ρ.iv 4))) = true) ∧ (True → (decide ((0 : Int) ≤ ((ρ.iv 4) - (1 : Int)))) = true) ∧ ((decide ((ρ.fn 1000 (((ρ.iv 4) - (1 : Int)) :: [])) ≤ (ρ.iv 5))) = true ∧ True → (decide (((ρ.iv 4) - (1 : Int)) < (ρ.iv 6))) = true) ∧ ((decide ((ρ.fn 1000 (((ρ.iv 4) - (1 : Int)) :: [])) ≤ (ρ.iv 5))) = true ∧ True → (decide ((0 : Int) ≤ ((ρ.iv 4) - (1 : Int)))) = true) ∧ ((decide ((ρ.iv 5) < (ρ.fn 1000 (((ρ.iv 4) - (1 : Int)) :: [])))) = true ∧ True → (decide ((0 : Int) < (ρ.iv 4))) = true) ∧ ((decide ((ρ.iv 5) ≤ (ρ.fn 1000 ((0 : Int) :: [])))) = true ∧ (decide ((ρ.iv 5) < (ρ.fn 1000 (((ρ.iv 4) - (1 : Int)) :: [])))) = true ∧ True → (decide ((0 : Int) < (ρ.iv 6))) = true) ∧ True) := by kernel_rfl
theorem rl_says0 (ρ : Env) : saysL ρ rlV0 = (True ∧
  True ∧
  True ∧
  True ∧
  True ∧
  True ∧
  True) := by kernel_rfl
theorem rl_0_pc0 (ρ : Env) : andB ρ [(.bin .le (.ap 1000 (.cons (.bin .sub (.v 4) (.c 1)) .nil)) (.v 5))] = ((decide ((ρ.fn 1000 (((ρ.iv 4) - (1 : Int)) :: [])) ≤ (ρ.iv 5))) = true ∧ True) := by kernel_rfl
theorem rl_0_pc1 (ρ : Env) : andB ρ [(.bin .le (.v 5) (.ap 1000 (.cons (.c 0) .nil))), (.bin .lt (.v 5) (.ap 1000 (.cons (.bin .sub (.v 4) (.c 1)) .nil)))] = ((decide ((ρ.iv 5) ≤ (ρ.fn 1000 ((0 : Int) :: [])))) = true ∧ (decide ((ρ.iv 5) < (ρ.fn 1000 (((ρ.iv 4) - (1 : Int)) :: [])))) = true ∧ True) := by kernel_rfl
theorem rl_0_pc2 (ρ : Env) : andB ρ [(.bin .lt (.ap 1000 (.cons (.c 0) .nil)) (.v 5)), (.bin .lt (.v 5) (.ap 1000 (.cons (.bin .sub (.v 4) (.c 1)) .nil)))] = ((decide ((ρ.fn 1000 ((0 : Int) :: [])) < (ρ.iv 5))) = true ∧ (decide ((ρ.iv 5) < (ρ.fn 1000 (((ρ.iv 4) - (1 : Int)) :: [])))) = true ∧ True) := by kernel_rfl
def rlL1 : List LS := [⟨[(.bin .lt (.v 5) (.ap 1000 (.cons (.v 13) .nil)))], .normal, rlS1, ⟨[(13, (.bin .sub (.v 13) (.c 1)))], []⟩⟩,
  ⟨[(.bin .le (.ap 1000 (.cons (.v 13) .nil)) (.v 5))], (.exit 0), rlS1, ⟨[], []⟩⟩]
def rlV1 : List VC := [⟨[], (.bin .lt (.v 13) (.v 4))⟩]
theorem rl_ran1 : ran (runP Try.prog 23 (cfgK rlSum rlKeeps 50 12) 79 (loopOf Try.prog 79 7) rlS1) rlL1 rlV1 = true := by kernel_rfl
def rlW1 : List VC := [⟨[], (.bin .lt (.v 13) (.v 4))⟩]
theorem rl_defs1 : defs rlV1 [] [] = rlW1 := by kernel_rfl
theorem rl_no1 : rlW1.all VC.isNo = true := by kernel_rfl
theorem rl_w1 (ρ : Env) : andV ρ rlW1 = ((True → (decide ((ρ.iv 13) < (ρ.iv 4))) = true) ∧ True) := by kernel_rfl
theorem rl_says1 (ρ : Env) : saysL ρ rlV1 = (True ∧
  True) := by kernel_rfl
theorem rl_1_pc0 (ρ : Env) : andB ρ [(.bin .lt (.v 5) (.ap 1000 (.cons (.v 13) .nil)))] = ((decide ((ρ.iv 5) < (ρ.fn 1000 ((ρ.iv 13) :: [])))) = true ∧ True) := by kernel_rfl
theorem rl_1_pc1 (ρ : Env) : andB ρ [(.bin .le (.ap 1000 (.cons (.v 13) .nil)) (.v 5))] = ((decide ((ρ.fn 1000 ((ρ.iv 13) :: [])) ≤ (ρ.iv 5))) = true ∧ True) := by kernel_rfl
def rlL2 : List LS := [⟨[], .ret, ⟨[(4, ⟨[], .int .i64 ⟨(.v 900), (-9000000000000000000), 9000000000000000000⟩⟩)], [], 0, 88⟩, ⟨[(900, (.ap 50 (.cons (.un (.wrap .i64) (.bin .add (.v 1156344280580782723) (.v 178919818227887957))) (.cons (.v 137219631953655616) .nil))))], []⟩⟩]
def rlV2 : List VC := [⟨[], (.bin .lt (.bin .add (.v 13) (.c 1)) (.v 4))⟩,
  ⟨[], (.bin .lt (.v 13) (.v 4))⟩,
  ⟨[], (.bin .eq (.v 137219631953655616) (.un (.wrap .i64) (.bin .sub (.ap 1000 (.cons (.bin .add (.v 13) (.c 1)) .nil)) (.ap 1000 (.cons (.v 13) .nil)))))⟩,
  ⟨[], (.bin .lt (.v 13) (.v 6))⟩,
  ⟨[], (.bin .eq (.v 1156344280580782723) (.un (.wrap .i64) (.bin .mul (.ap 1100 (.cons (.v 13) .nil)) (.un (.wrap .i64) (.bin .sub (.ap 1000 (.cons (.bin .add (.v 13) (.c 1)) .nil)) (.v 5))))))⟩,
  ⟨[], (.bin .lt (.bin .add (.v 13) (.c 1)) (.v 6))⟩,
  ⟨[], (.bin .eq (.v 178919818227887957) (.un (.wrap .i64) (.bin .mul (.ap 1100 (.cons (.bin .add (.v 13) (.c 1)) .nil)) (.un (.wrap .i64) (.bin .sub (.v 5) (.ap 1000 (.cons (.v 13) .nil)))))))⟩,
  ⟨[], (.bin .lt (.c 0) (.v 137219631953655616))⟩,
  ⟨[], (.bin .le (.v 137219631953655616) (.c 4000000000000))⟩,
  ⟨[], (.bin .le (.c (-4400000000000000000)) (.un (.wrap .i64) (.bin .add (.v 1156344280580782723) (.v 178919818227887957))))⟩,
  ⟨[], (.bin .le (.un (.wrap .i64) (.bin .add (.v 1156344280580782723) (.v 178919818227887957))) (.c 4400000000000000000))⟩]
theorem rl_ran2 : ran (runP Try.prog 23 (cfgK rlSum rlKeeps 50 12) 79 (partOf Try.prog 79 8 11) rlS1) rlL2 rlV2 = true := by kernel_rfl
def rlW2 : List VC := [⟨[], (.bin .lt (.bin .add (.v 13) (.c 1)) (.v 4))⟩, ⟨[], (.bin .lt (.v 13) (.v 4))⟩, ⟨[], (.bin .lt (.v 13) (.v 6))⟩, ⟨[], (.bin .lt (.bin .add (.v 13) (.c 1)) (.v 6))⟩, ⟨[], (.bin .lt (.c 0) (.v 137219631953655616))⟩, ⟨[], (.bin .le (.v 137219631953655616) (.c 4000000000000))⟩, ⟨[], (.bin .le (.c (-4400000000000000000)) (.un (.wrap .i64) (.bin .add (.v 1156344280580782723) (.v 178919818227887957))))⟩, ⟨[], (.bin .le (.un (.wrap .i64) (.bin .add (.v 1156344280580782723) (.v 178919818227887957))) (.c 4400000000000000000))⟩]
theorem rl_defs2 : defs rlV2 [] [] = rlW2 := by kernel_rfl
theorem rl_no2 : rlW2.all VC.isNo = true := by kernel_rfl
theorem rl_w2 (ρ : Env) : andV ρ rlW2 = ((True → (decide (((ρ.iv 13) + (1 : Int)) < (ρ.iv 4))) = true) ∧ (True → (decide ((ρ.iv 13) < (ρ.iv 4))) = true) ∧ (True → (decide ((ρ.iv 13) < (ρ.iv 6))) = true) ∧ (True → (decide (((ρ.iv 13) + (1 : Int)) < (ρ.iv 6))) = true) ∧ (True → (decide ((0 : Int) < (ρ.iv 137219631953655616))) = true) ∧ (True → (decide ((ρ.iv 137219631953655616) ≤ (4000000000000 : Int))) = true) ∧ (True → (decide ((-4400000000000000000 : Int) ≤ (IntKind.wrap .i64 ((ρ.iv 1156344280580782723) + (ρ.iv 178919818227887957))))) = true) ∧ (True → (decide ((IntKind.wrap .i64 ((ρ.iv 1156344280580782723) + (ρ.iv 178919818227887957))) ≤ (4400000000000000000 : Int))) = true) ∧ True) := by kernel_rfl
theorem rl_says2 (ρ : Env) : saysL ρ rlV2 = (True ∧
  True ∧
  ρ.iv 137219631953655616 = (IntKind.wrap .i64 ((ρ.fn 1000 (((ρ.iv 13) + (1 : Int)) :: [])) - (ρ.fn 1000 ((ρ.iv 13) :: [])))) ∧
  True ∧
  ρ.iv 1156344280580782723 = (IntKind.wrap .i64 ((ρ.fn 1100 ((ρ.iv 13) :: [])) * (IntKind.wrap .i64 ((ρ.fn 1000 (((ρ.iv 13) + (1 : Int)) :: [])) - (ρ.iv 5))))) ∧
  True ∧
  ρ.iv 178919818227887957 = (IntKind.wrap .i64 ((ρ.fn 1100 (((ρ.iv 13) + (1 : Int)) :: [])) * (IntKind.wrap .i64 ((ρ.iv 5) - (ρ.fn 1000 ((ρ.iv 13) :: [])))))) ∧
  True ∧
  True ∧
  True ∧
  True ∧
  True) := by kernel_rfl
theorem rl_2_pc0 (ρ : Env) : andB ρ [] = (True) := by kernel_rfl
end Go.Proofs.Ytdfpenjhpemokaa.Sx
