/-
  The law TopLine: worked out. Written by a program of ours (wip/dev/sx).
-/
import Derived.Test.YtdfpenjhpemokaaTopLineERun
import Derived.Test.YtdfpenjhpemokaaProg
set_option linter.unusedVariables false
set_option linter.unusedSimpArgs false
namespace Go.Proofs.Ytdfpenjhpemokaa.Sx
def tMKeeps : List (Nat × List (Nat × List Nat)) := [(27, [(0, [1, 2, 3]), (1, [1, 2, 3, 28]), (2, [6]), (3, [1, 2, 3, 7]), (4, [1, 2, 3, 7, 34]), (5, [1, 2, 3, 7]), (6, [1, 2, 3, 7, 8, 9]), (7, [1, 2, 3, 7, 57]), (8, [6]), (9, [1, 2, 3]), (10, [1, 2, 3, 10, 11]), (11, [1, 2, 3, 10, 11, 12, 13]), (12, [1, 2, 3, 10, 12, 90]), (13, [6]), (14, [10, 12, 14, 15]), (15, [6])]),
  (30, [(0, [0, 1]), (1, [1, 5]), (2, [4]), (3, [4])]),
  (39, [(0, [0]), (1, [0, 3]), (2, [0, 3, 7]), (3, [0, 3]), (4, [0, 3, 14]), (5, [2]), (6, [2])]),
  (43, [(0, [0]), (1, [2])]),
  (45, [(0, [1]), (1, [17]), (2, [2]), (3, [2])]),
  (46, [(0, [0, 3]), (1, [4])]),
  (47, [(0, [0, 1, 2]), (1, [6])]),
  (51, [(0, [0, 1, 2]), (1, [6])]),
  (78, [(0, [1]), (1, [2])]),
  (80, [(0, [1, 2]), (1, [1, 2, 6]), (2, [1, 2, 6, 10]), (3, [4, 5]), (4, [4, 5])]),
  (81, [(0, [1]), (1, [1, 10]), (2, [2]), (3, [1, 3]), (4, [1, 3, 16]), (5, [2]), (6, [2])]),
  (82, [(0, [1]), (1, [1, 6]), (2, [2]), (3, [1, 3]), (4, [1, 3, 11]), (5, [1, 3]), (6, [1, 3, 25]), (7, [2]), (8, [2])]),
  (97, [(0, [2, 3, 4, 9, 30]), (1, [2, 3, 4, 6, 9, 30]), (2, [2, 3, 4, 6, 9, 13, 30]), (3, [2, 3, 4, 6, 9, 30]), (4, [2, 3, 4, 6, 9, 17, 30]), (5, [4, 5]), (6, [2, 3, 4, 7, 9, 30]), (7, [2, 3, 4, 8, 9, 30]), (8, [2, 4, 8, 9, 29, 30]), (9, [4, 8]), (10, [4, 8]), (11, [4, 5])]),
  (123, [(0, []), (1, [1, 2]), (2, [0])]),
  (133, [(0, [0, 1, 2]), (1, [0, 1, 2, 14]), (2, [6]), (3, [0, 2, 18]), (4, [6]), (5, [6])]),
  (146, [(0, [0]), (1, [0, 3]), (2, [0, 3, 4]), (3, [0, 3, 4, 8]), (4, [0, 3, 4]), (5, [0, 3, 4]), (6, [2])]),
  (147, [(0, [0]), (1, [0, 3]), (2, [0, 3, 7]), (3, [0, 3]), (4, [0, 3, 15]), (5, [2]), (6, [2])]),
  (149, [(0, [1, 2]), (1, [1, 2]), (2, [1, 2, 5]), (3, [1, 2, 5, 6]), (4, [4])]),
  (150, [(0, [0]), (1, [0, 7]), (2, [2]), (3, [0, 11]), (4, [2]), (5, [0, 3]), (6, [0, 3, 16]), (7, [2]), (8, [0, 4]), (9, [0, 4, 21]), (10, [0, 4]), (11, [0, 4, 33]), (12, [2]), (13, [2])]),
  (151, [(0, [0]), (1, [5, 6, 7]), (2, [5, 6, 7, 8]), (3, [4, 5, 6, 7]), (4, [5, 6, 7, 16]), (5, [2]), (6, [5, 6, 7]), (7, [2])]),
  (153, [(0, [0, 1]), (1, [0, 1, 5]), (2, [0, 1, 5, 19]), (3, [0, 1, 5]), (4, [4])]),
  (154, [(0, [0, 1]), (1, [4])]),
  (160, [(0, [2, 3]), (1, [4])]),
  (161, [(0, [1, 2, 4]), (1, [2, 4, 7, 8, 9]), (2, [2, 4, 7, 8, 9, 10]), (3, [2, 4, 6, 7, 8, 9]), (4, [2, 4, 6, 7, 8, 9]), (5, [2, 4, 7, 8, 9]), (6, [2, 4, 7, 8, 9]), (7, [4])]),
  (172, [(0, [0, 1]), (1, [0, 1, 5]), (2, [5, 12]), (3, [5]), (4, [4])]),
  (173, [(0, [0, 1, 2, 17]), (1, [0, 1, 19, 20, 21]), (2, [0, 1, 19, 20, 21, 22]), (3, [0, 1, 5, 19, 20, 21]), (4, [0, 1, 19, 20, 21, 33]), (5, [0, 1, 19, 20, 21])])]
def tMArgs : List SV := [.agg [.osl 0 [.int .i64 (-9223372036854775808) 9223372036854775807] ⟨(.v 4), 2, 8⟩, .osl 1 [.int .i64 (-9223372036854775808) 9223372036854775807] ⟨(.v 6), 2, 8⟩], .int .i64 ⟨(.v 20), (-9223372036854775808), 9223372036854775807⟩, .int .i64 ⟨(.v 21), (-9223372036854775808), 9223372036854775807⟩]
def tMS1 : St := ⟨[(7, ⟨[], .int .i64 ⟨(.v 13), 0, 8⟩⟩), (3, ⟨[], .ptr 0 0⟩), (1, ⟨[], .int .i64 ⟨(.v 20), (-9223372036854775808), 9223372036854775807⟩⟩), (2, ⟨[], .int .i64 ⟨(.v 21), (-9223372036854775808), 9223372036854775807⟩⟩)], [(0, ⟨[], ⟨[.osl 0 [.int .i64 (-9223372036854775808) 9223372036854775807] ⟨(.v 4), 2, 8⟩, .osl 1 [.int .i64 (-9223372036854775808) 9223372036854775807] ⟨(.v 6), 2, 8⟩], 81, .full⟩⟩)], 1, 113⟩
def tML0 : List LS := [⟨[], .normal, tMS1, ⟨[(13, (.c 0))], []⟩⟩]
def tMV0 : List VC := [⟨[], (.bin .eq (.ap 62 (.cons (.c 0) (.cons (.c 1) .nil))) (.c 0))⟩]
theorem tM_ran0 : ran (runP Try.prog 23 (cfgK tMSum tMKeeps 50 12) 27 (partOf Try.prog 27 0 4) (start Try.prog 27 tMArgs [] 0)) tML0 tMV0 = true := by kernel_rfl
def tMW0 : List VC := [⟨[], (.bin .eq (.ap 62 (.cons (.c 0) (.cons (.c 1) .nil))) (.c 0))⟩]
theorem tM_defs0 : defs tMV0 [] [] = tMW0 := by kernel_rfl
theorem tM_no0 : tMW0.all VC.isNo = true := by kernel_rfl
theorem tM_w0 (ρ : Env) : andV ρ tMW0 = ((True → (decide ((ρ.fn 62 ((0 : Int) :: ((1 : Int) :: []))) = (0 : Int))) = true) ∧ True) := by kernel_rfl
theorem tM_says0 (ρ : Env) : saysL ρ tMV0 = (True ∧
  True) := by kernel_rfl
theorem tM_0_pc0 (ρ : Env) : andB ρ [] = (True) := by kernel_rfl
def tML1 : List LS := [⟨[(.un .not (.bin .eq (.ap 64 (.cons (.c 0) (.cons (.c 1) (.cons (.ap 1000 (.cons (.v 13) .nil)) .nil)))) (.ap 1100 (.cons (.v 13) .nil)))), (.bin .lt (.v 13) (.v 4))], .ret, ⟨[(6, ⟨[], .bool (.bc false)⟩)], [], 0, 113⟩, ⟨[], []⟩⟩,
  ⟨[(.bin .eq (.ap 64 (.cons (.c 0) (.cons (.c 1) (.cons (.ap 1000 (.cons (.v 13) .nil)) .nil)))) (.ap 1100 (.cons (.v 13) .nil))), (.bin .lt (.v 13) (.v 4))], .normal, tMS1, ⟨[(13, (.bin .add (.v 13) (.c 1)))], []⟩⟩,
  ⟨[(.bin .le (.v 4) (.v 13))], (.exit 0), tMS1, ⟨[], []⟩⟩]
def tMV1 : List VC := [⟨[(.bin .lt (.v 13) (.v 4))], (.bin .eq (.ap 62 (.cons (.c 0) (.cons (.c 1) .nil))) (.c 0))⟩,
  ⟨[(.bin .lt (.v 13) (.v 4))], (.bin .lt (.v 13) (.v 6))⟩]
theorem tM_ran1 : ran (runP Try.prog 23 (cfgK tMSum tMKeeps 50 12) 27 (loopOf Try.prog 27 4) tMS1) tML1 tMV1 = true := by kernel_rfl
def tMW1 : List VC := [⟨[(.bin .lt (.v 13) (.v 4))], (.bin .eq (.ap 62 (.cons (.c 0) (.cons (.c 1) .nil))) (.c 0))⟩, ⟨[(.bin .lt (.v 13) (.v 4))], (.bin .lt (.v 13) (.v 6))⟩]
theorem tM_defs1 : defs tMV1 [] [] = tMW1 := by kernel_rfl
theorem tM_no1 : tMW1.all VC.isNo = true := by kernel_rfl
theorem tM_w1 (ρ : Env) : andV ρ tMW1 = (((decide ((ρ.iv 13) < (ρ.iv 4))) = true ∧ True → (decide ((ρ.fn 62 ((0 : Int) :: ((1 : Int) :: []))) = (0 : Int))) = true) ∧ ((decide ((ρ.iv 13) < (ρ.iv 4))) = true ∧ True → (decide ((ρ.iv 13) < (ρ.iv 6))) = true) ∧ True) := by kernel_rfl
theorem tM_says1 (ρ : Env) : saysL ρ tMV1 = (True ∧
  True ∧
  True) := by kernel_rfl
theorem tM_1_pc0 (ρ : Env) : andB ρ [(.un .not (.bin .eq (.ap 64 (.cons (.c 0) (.cons (.c 1) (.cons (.ap 1000 (.cons (.v 13) .nil)) .nil)))) (.ap 1100 (.cons (.v 13) .nil)))), (.bin .lt (.v 13) (.v 4))] = ((!(decide ((ρ.fn 64 ((0 : Int) :: ((1 : Int) :: ((ρ.fn 1000 ((ρ.iv 13) :: [])) :: [])))) = (ρ.fn 1100 ((ρ.iv 13) :: []))))) = true ∧ (decide ((ρ.iv 13) < (ρ.iv 4))) = true ∧ True) := by kernel_rfl
theorem tM_1_pc1 (ρ : Env) : andB ρ [(.bin .eq (.ap 64 (.cons (.c 0) (.cons (.c 1) (.cons (.ap 1000 (.cons (.v 13) .nil)) .nil)))) (.ap 1100 (.cons (.v 13) .nil))), (.bin .lt (.v 13) (.v 4))] = ((decide ((ρ.fn 64 ((0 : Int) :: ((1 : Int) :: ((ρ.fn 1000 ((ρ.iv 13) :: [])) :: [])))) = (ρ.fn 1100 ((ρ.iv 13) :: [])))) = true ∧ (decide ((ρ.iv 13) < (ρ.iv 4))) = true ∧ True) := by kernel_rfl
theorem tM_1_pc2 (ρ : Env) : andB ρ [(.bin .le (.v 4) (.v 13))] = ((decide ((ρ.iv 4) ≤ (ρ.iv 13))) = true ∧ True) := by kernel_rfl
def tML2 : List LS := [⟨[], .ret, ⟨[(6, ⟨[], .bool (.bv 900)⟩)], [], 0, 113⟩, ⟨[], [(900, (.bin .and (.un .not (.bv 1262331193937516586)) (.bin .and (.bin .and (.bin .eq (.v 1401654731943438972) (.c 0)) (.bv 1847553098389094795)) (.bv 1414784575601416923))))]⟩⟩]
def tMV2 : List VC := [⟨[], (.bin .eq (.ap 62 (.cons (.c 0) (.cons (.c 1) .nil))) (.c 0))⟩,
  ⟨[], (.ite (.bv 1262331193937516586) (.bin .and (.ap 65 (.cons (.c 0) (.cons (.c 1) .nil))) (.bin .lt (.ap 64 (.cons (.c 0) (.cons (.c 1) (.cons (.bin .max (.v 20) (.v 21)) .nil)))) (.ap 64 (.cons (.c 0) (.cons (.c 1) (.cons (.bin .min (.v 20) (.v 21)) .nil)))))) (.un .not (.bin .and (.ap 65 (.cons (.c 0) (.cons (.c 1) .nil))) (.bin .lt (.ap 64 (.cons (.c 0) (.cons (.c 1) (.cons (.bin .max (.v 20) (.v 21)) .nil)))) (.ap 64 (.cons (.c 0) (.cons (.c 1) (.cons (.bin .min (.v 20) (.v 21)) .nil))))))))⟩,
  ⟨[], (.bin .eq (.v 1401654731943438972) (.ap 73 (.cons (.c 0) (.cons (.c 1) (.cons (.bin .min (.bin .max (.bin .min (.v 20) (.v 21)) (.c (-2147483647))) (.c 2147483647)) (.cons (.bin .min (.bin .max (.bin .max (.v 20) (.v 21)) (.c (-2147483647))) (.c 2147483647)) .nil))))))⟩,
  ⟨[], (.bin .eq (.v 1399658237247972854) (.ap 71 (.cons (.c 0) (.cons (.c 1) (.cons (.bin .min (.bin .max (.bin .min (.v 20) (.v 21)) (.c (-2147483647))) (.c 2147483647)) (.cons (.bin .min (.bin .max (.bin .max (.v 20) (.v 21)) (.c (-2147483647))) (.c 2147483647)) .nil))))))⟩,
  ⟨[], (.bin .eq (.v 1400656484595705913) (.ap 72 (.cons (.c 0) (.cons (.c 1) (.cons (.bin .min (.bin .max (.bin .min (.v 20) (.v 21)) (.c (-2147483647))) (.c 2147483647)) (.cons (.bin .min (.bin .max (.bin .max (.v 20) (.v 21)) (.c (-2147483647))) (.c 2147483647)) .nil))))))⟩,
  ⟨[], (.ite (.bv 1847553098389094795) (.bin .and (.bin .le (.v 1399658237247972854) (.ap 64 (.cons (.c 0) (.cons (.c 1) (.cons (.bin .min (.v 20) (.v 21)) .nil))))) (.bin .le (.ap 64 (.cons (.c 0) (.cons (.c 1) (.cons (.bin .min (.v 20) (.v 21)) .nil)))) (.v 1400656484595705913))) (.un .not (.bin .and (.bin .le (.v 1399658237247972854) (.ap 64 (.cons (.c 0) (.cons (.c 1) (.cons (.bin .min (.v 20) (.v 21)) .nil))))) (.bin .le (.ap 64 (.cons (.c 0) (.cons (.c 1) (.cons (.bin .min (.v 20) (.v 21)) .nil)))) (.v 1400656484595705913)))))⟩,
  ⟨[], (.ite (.bv 1414784575601416923) (.bin .and (.bin .le (.v 1399658237247972854) (.ap 64 (.cons (.c 0) (.cons (.c 1) (.cons (.bin .max (.v 20) (.v 21)) .nil))))) (.bin .le (.ap 64 (.cons (.c 0) (.cons (.c 1) (.cons (.bin .max (.v 20) (.v 21)) .nil)))) (.v 1400656484595705913))) (.un .not (.bin .and (.bin .le (.v 1399658237247972854) (.ap 64 (.cons (.c 0) (.cons (.c 1) (.cons (.bin .max (.v 20) (.v 21)) .nil))))) (.bin .le (.ap 64 (.cons (.c 0) (.cons (.c 1) (.cons (.bin .max (.v 20) (.v 21)) .nil)))) (.v 1400656484595705913)))))⟩]
theorem tM_ran2 : ran (runP Try.prog 23 (cfgK tMSum tMKeeps 50 12) 27 (partOf Try.prog 27 5 13) tMS1) tML2 tMV2 = true := by kernel_rfl
def tMW2 : List VC := [⟨[], (.bin .eq (.ap 62 (.cons (.c 0) (.cons (.c 1) .nil))) (.c 0))⟩]
theorem tM_defs2 : defs tMV2 [] [] = tMW2 := by kernel_rfl
theorem tM_no2 : tMW2.all VC.isNo = true := by kernel_rfl
theorem tM_w2 (ρ : Env) : andV ρ tMW2 = ((True → (decide ((ρ.fn 62 ((0 : Int) :: ((1 : Int) :: []))) = (0 : Int))) = true) ∧ True) := by kernel_rfl
theorem tM_says2 (ρ : Env) : saysL ρ tMV2 = (True ∧
  ρ.bv 1262331193937516586 = ((ρ.fb 65 ((0 : Int) :: ((1 : Int) :: []))) && (decide ((ρ.fn 64 ((0 : Int) :: ((1 : Int) :: ((max (ρ.iv 20) (ρ.iv 21)) :: [])))) < (ρ.fn 64 ((0 : Int) :: ((1 : Int) :: ((min (ρ.iv 20) (ρ.iv 21)) :: []))))))) ∧
  ρ.iv 1401654731943438972 = (ρ.fn 73 ((0 : Int) :: ((1 : Int) :: ((min (max (min (ρ.iv 20) (ρ.iv 21)) (-2147483647 : Int)) (2147483647 : Int)) :: ((min (max (max (ρ.iv 20) (ρ.iv 21)) (-2147483647 : Int)) (2147483647 : Int)) :: []))))) ∧
  ρ.iv 1399658237247972854 = (ρ.fn 71 ((0 : Int) :: ((1 : Int) :: ((min (max (min (ρ.iv 20) (ρ.iv 21)) (-2147483647 : Int)) (2147483647 : Int)) :: ((min (max (max (ρ.iv 20) (ρ.iv 21)) (-2147483647 : Int)) (2147483647 : Int)) :: []))))) ∧
  ρ.iv 1400656484595705913 = (ρ.fn 72 ((0 : Int) :: ((1 : Int) :: ((min (max (min (ρ.iv 20) (ρ.iv 21)) (-2147483647 : Int)) (2147483647 : Int)) :: ((min (max (max (ρ.iv 20) (ρ.iv 21)) (-2147483647 : Int)) (2147483647 : Int)) :: []))))) ∧
  ρ.bv 1847553098389094795 = ((decide ((ρ.iv 1399658237247972854) ≤ (ρ.fn 64 ((0 : Int) :: ((1 : Int) :: ((min (ρ.iv 20) (ρ.iv 21)) :: [])))))) && (decide ((ρ.fn 64 ((0 : Int) :: ((1 : Int) :: ((min (ρ.iv 20) (ρ.iv 21)) :: [])))) ≤ (ρ.iv 1400656484595705913)))) ∧
  ρ.bv 1414784575601416923 = ((decide ((ρ.iv 1399658237247972854) ≤ (ρ.fn 64 ((0 : Int) :: ((1 : Int) :: ((max (ρ.iv 20) (ρ.iv 21)) :: [])))))) && (decide ((ρ.fn 64 ((0 : Int) :: ((1 : Int) :: ((max (ρ.iv 20) (ρ.iv 21)) :: [])))) ≤ (ρ.iv 1400656484595705913)))) ∧
  True) := by kernel_rfl
theorem tM_2_pc0 (ρ : Env) : andB ρ [] = (True) := by kernel_rfl
end Go.Proofs.Ytdfpenjhpemokaa.Sx
