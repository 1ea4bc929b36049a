/-
  R.Over: worked out. Written by a program of ours (wip/dev/sx).
-/
import Derived.Test.YtdfpenjhpemokaaOverK
import Derived.Test.YtdfpenjhpemokaaProg
set_option linter.unusedVariables false
set_option linter.unusedSimpArgs false
namespace Go.Proofs.Ytdfpenjhpemokaa.Sx
def rOKeeps : List (Nat × List (Nat × List Nat)) := [(47, [(0, [0, 1, 2]), (1, [6])]),
  (64, [(0, [0, 1]), (1, [0, 1]), (2, [0, 1, 9]), (3, [0]), (4, [4])]),
  (79, [(0, [1, 2]), (1, [1, 2, 5]), (2, [1, 2, 5, 18]), (3, [4]), (4, [1, 2, 5, 29]), (5, [4]), (6, [1, 2, 6]), (7, [1, 2, 6, 42]), (8, [1, 2, 6]), (9, [1, 2, 6, 7]), (10, [4])]),
  (96, [(0, [2, 3, 4]), (1, [2, 3, 4, 5, 6]), (2, [2, 3, 4, 7]), (3, [2, 3, 4, 7, 8]), (4, [2, 3, 4, 7, 8, 28]), (5, [2, 3, 4, 7, 8]), (6, [2, 3, 4, 7, 8, 40]), (7, [2, 3, 4, 7, 8]), (8, [4])]),
  (142, [(0, [0, 1]), (1, [4])]),
  (148, [(0, [0, 1]), (1, [4])])]
def rOArgs : List SV := [.agg [.osl 0 [.int .i64 (-9223372036854775808) 9223372036854775807] ⟨(.v 4), 0, 1000⟩, .osl 1 [.int .i64 (-9223372036854775808) 9223372036854775807] ⟨(.v 6), 0, 1000⟩], .agg [.int .i64 ⟨(.v 20), (-9223372036854775808), 9223372036854775807⟩, .int .i64 ⟨(.v 21), (-9223372036854775808), 9223372036854775807⟩]]
def rOS1 : St := ⟨[(8, ⟨[], .int .i64 ⟨(.v 13), 0, 1000⟩⟩), (7, ⟨[], .ptr 3 0⟩), (4, ⟨[], .ptr 2 0⟩), (3, ⟨[], .ptr 1 0⟩), (2, ⟨[], .ptr 0 0⟩)], [(3, ⟨[], ⟨[.int .i64 ⟨(.v 14), (-9223372036854775808), 9223372036854775807⟩, .int .i64 ⟨(.v 15), (-9223372036854775808), 9223372036854775807⟩], 41, .full⟩⟩), (2, ⟨[], ⟨[.int .i64 ⟨(.c 0), 0, 0⟩, .int .i64 ⟨(.c 0), 0, 0⟩], 41, .full⟩⟩), (1, ⟨[], ⟨[.int .i64 ⟨(.v 20), (-9223372036854775808), 9223372036854775807⟩, .int .i64 ⟨(.v 21), (-9223372036854775808), 9223372036854775807⟩], 41, .full⟩⟩), (0, ⟨[], ⟨[.osl 0 [.int .i64 (-9223372036854775808) 9223372036854775807] ⟨(.v 4), 0, 1000⟩, .osl 1 [.int .i64 (-9223372036854775808) 9223372036854775807] ⟨(.v 6), 0, 1000⟩], 81, .full⟩⟩)], 4, 60⟩
def rOL0 : List LS := [⟨[], .normal, rOS1, ⟨[(13, (.c 0)), (14, (.v 1213465211255250770)), (15, (.v 1213466211261250779))], []⟩⟩]
def rOV0 : List VC := [⟨[], (.bin .eq (.ap 62 (.cons (.c 0) (.cons (.c 1) .nil))) (.c 0))⟩,
  ⟨[], (.bin .eq (.v 1213465211255250770) (.bin .min (.ap 64 (.cons (.c 0) (.cons (.c 1) (.cons (.v 20) .nil)))) (.ap 64 (.cons (.c 0) (.cons (.c 1) (.cons (.v 21) .nil))))))⟩,
  ⟨[], (.bin .eq (.v 1213466211261250779) (.bin .max (.ap 64 (.cons (.c 0) (.cons (.c 1) (.cons (.v 20) .nil)))) (.ap 64 (.cons (.c 0) (.cons (.c 1) (.cons (.v 21) .nil))))))⟩]
theorem rO_ran0 : ran (runP Try.prog 23 (cfgK rOSum rOKeeps 50 12) 96 (partOf Try.prog 96 0 4) (start Try.prog 96 rOArgs [] 0)) rOL0 rOV0 = true := by kernel_rfl
def rOW0 : List VC := [⟨[], (.bin .eq (.ap 62 (.cons (.c 0) (.cons (.c 1) .nil))) (.c 0))⟩]
theorem rO_defs0 : defs rOV0 [] [] = rOW0 := by kernel_rfl
theorem rO_no0 : rOW0.all VC.isNo = true := by kernel_rfl
theorem rO_w0 (ρ : Env) : andV ρ rOW0 = ((True → (decide ((ρ.fn 62 ((0 : Int) :: ((1 : Int) :: []))) = (0 : Int))) = true) ∧ True) := by kernel_rfl
theorem rO_says0 (ρ : Env) : saysL ρ rOV0 = (True ∧
  ρ.iv 1213465211255250770 = (min (ρ.fn 64 ((0 : Int) :: ((1 : Int) :: ((ρ.iv 20) :: [])))) (ρ.fn 64 ((0 : Int) :: ((1 : Int) :: ((ρ.iv 21) :: []))))) ∧
  ρ.iv 1213466211261250779 = (max (ρ.fn 64 ((0 : Int) :: ((1 : Int) :: ((ρ.iv 20) :: [])))) (ρ.fn 64 ((0 : Int) :: ((1 : Int) :: ((ρ.iv 21) :: []))))) ∧
  True) := by kernel_rfl
theorem rO_0_pc0 (ρ : Env) : andB ρ [] = (True) := by kernel_rfl
def rOL1 : List LS := [⟨[(.bin .lt (.v 13) (.v 4))], .normal, rOS1, ⟨[(13, (.bin .add (.v 13) (.c 1))), (14, (.v 949351114662470128)), (15, (.v 318800803084205648))], []⟩⟩,
  ⟨[(.bin .le (.v 4) (.v 13))], (.exit 0), rOS1, ⟨[], []⟩⟩]
def rOV1 : List VC := [⟨[(.bin .and (.bin .le (.v 20) (.ap 1000 (.cons (.v 13) .nil))) (.bin .le (.ap 1000 (.cons (.v 13) .nil)) (.v 21))), (.bin .lt (.v 13) (.v 4))], (.bin .lt (.v 13) (.v 6))⟩,
  ⟨[], (.bin .eq (.v 949351114662470128) (.ite (.bin .and (.bin .le (.v 20) (.ap 1000 (.cons (.v 13) .nil))) (.bin .le (.ap 1000 (.cons (.v 13) .nil)) (.v 21))) (.bin .min (.v 14) (.ap 1100 (.cons (.v 13) .nil))) (.v 14)))⟩,
  ⟨[], (.bin .eq (.v 318800803084205648) (.ite (.bin .and (.bin .le (.v 20) (.ap 1000 (.cons (.v 13) .nil))) (.bin .le (.ap 1000 (.cons (.v 13) .nil)) (.v 21))) (.bin .max (.v 15) (.ap 1100 (.cons (.v 13) .nil))) (.v 15)))⟩]
theorem rO_ran1 : ran (runP Try.prog 23 (cfgK rOSum rOKeeps 50 12) 96 (loopOf Try.prog 96 4) rOS1) rOL1 rOV1 = true := by kernel_rfl
def rOW1 : List VC := [⟨[(.bin .and (.bin .le (.v 20) (.ap 1000 (.cons (.v 13) .nil))) (.bin .le (.ap 1000 (.cons (.v 13) .nil)) (.v 21))), (.bin .lt (.v 13) (.v 4))], (.bin .lt (.v 13) (.v 6))⟩]
theorem rO_defs1 : defs rOV1 [] [] = rOW1 := by kernel_rfl
theorem rO_no1 : rOW1.all VC.isNo = true := by kernel_rfl
theorem rO_w1 (ρ : Env) : andV ρ rOW1 = ((((decide ((ρ.iv 20) ≤ (ρ.fn 1000 ((ρ.iv 13) :: [])))) && (decide ((ρ.fn 1000 ((ρ.iv 13) :: [])) ≤ (ρ.iv 21)))) = true ∧ (decide ((ρ.iv 13) < (ρ.iv 4))) = true ∧ True → (decide ((ρ.iv 13) < (ρ.iv 6))) = true) ∧ True) := by kernel_rfl
theorem rO_says1 (ρ : Env) : saysL ρ rOV1 = (True ∧
  ρ.iv 949351114662470128 = (if ((decide ((ρ.iv 20) ≤ (ρ.fn 1000 ((ρ.iv 13) :: [])))) && (decide ((ρ.fn 1000 ((ρ.iv 13) :: [])) ≤ (ρ.iv 21)))) = true then (min (ρ.iv 14) (ρ.fn 1100 ((ρ.iv 13) :: []))) else (ρ.iv 14)) ∧
  ρ.iv 318800803084205648 = (if ((decide ((ρ.iv 20) ≤ (ρ.fn 1000 ((ρ.iv 13) :: [])))) && (decide ((ρ.fn 1000 ((ρ.iv 13) :: [])) ≤ (ρ.iv 21)))) = true then (max (ρ.iv 15) (ρ.fn 1100 ((ρ.iv 13) :: []))) else (ρ.iv 15)) ∧
  True) := by kernel_rfl
theorem rO_1_pc0 (ρ : Env) : andB ρ [(.bin .lt (.v 13) (.v 4))] = ((decide ((ρ.iv 13) < (ρ.iv 4))) = true ∧ True) := by kernel_rfl
theorem rO_1_pc1 (ρ : Env) : andB ρ [(.bin .le (.v 4) (.v 13))] = ((decide ((ρ.iv 4) ≤ (ρ.iv 13))) = true ∧ True) := by kernel_rfl
def rOL2 : List LS := [⟨[], .ret, ⟨[(4, ⟨[], .ptr 2 0⟩)], [(2, ⟨[], ⟨[.int .i64 ⟨(.v 900), (-9223372036854775808), 9223372036854775807⟩, .int .i64 ⟨(.v 901), (-9223372036854775808), 9223372036854775807⟩], 41, .full⟩⟩)], 4, 60⟩, ⟨[(900, (.v 14)), (901, (.v 15))], []⟩⟩]
def rOV2 : List VC := []
theorem rO_ran2 : ran (runP Try.prog 23 (cfgK rOSum rOKeeps 50 12) 96 (partOf Try.prog 96 5 7) rOS1) rOL2 rOV2 = true := by kernel_rfl
def rOW2 : List VC := []
theorem rO_defs2 : defs rOV2 [] [] = rOW2 := by kernel_rfl
theorem rO_no2 : rOW2.all VC.isNo = true := by kernel_rfl
theorem rO_w2 (ρ : Env) : andV ρ rOW2 = (True) := by kernel_rfl
theorem rO_says2 (ρ : Env) : saysL ρ rOV2 = (True) := by kernel_rfl
theorem rO_2_pc0 (ρ : Env) : andB ρ [] = (True) := by kernel_rfl
end Go.Proofs.Ytdfpenjhpemokaa.Sx
