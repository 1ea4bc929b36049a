/-
  Package law: Check, of, Next, Guarded; the reference's HealthMay and LawOf.
-/
import Derived.Test.YtalfgmhjnfnbeaaErr2
import Derived.Test.YtalfgmhjnfnbeaaFix2
import Derived.BigGuardPart
import Derived.Handy
namespace Go.Proofs.Ytalfgmhjnfnbeaa
open Go.RowKit

/-- May a health be: 0, or the error's number. -/
def phealth (ch so su : Int) : Int := if 0 ≤ ch ∧ ch ≤ 3 ∧ 1 ≤ su ∧ su ≤ 4 ∧ 0 ≤ so ∧ so ≤ su then 0 else 1
/-- The law that an axis asks for. -/
def plawof (ch so su : Int) : Int := if so = 0 then 3 else if ch < 2 ∨ so + 2 ≤ su then 2 else if so < su then 1 else 0

theorem lawCheck (ch so su : Int) (w : World) : Calls Try.prog 42 #[.agg #[.int .i64 ch, .int .i64 so, .int .i64 su]] w fun e w' =>
    e = .returned (errV (phealth ch so su)) ∧ w.alloc (.cells #[.int .i64 ch, .int .i64 so, .int .i64 su] 60) = w' := by
  have hE : Hid (phealth ch so su = if 0 ≤ ch ∧ ch ≤ 3 ∧ 1 ≤ su ∧ su ≤ 4 ∧ 0 ≤ so ∧ so ≤ su then 0 else 1) := rfl
  generalize phealth ch so su = r at *
  go_enter Try.func42, Try.ntmps42
  go_wp2
  all_goals go_ret
  all_goals refine ⟨?_, rfl⟩
  all_goals rw [hE.out]
  all_goals first | (rw [if_neg (by omega)]; rfl) | (rw [if_pos (by omega)]; rfl)

theorem refHealthMay (ch so su : Int) (w : World) : Calls Try.prog 41 #[.agg #[.int .i64 ch, .int .i64 so, .int .i64 su]] w fun e w' =>
    e = .returned (.int .i64 (phealth ch so su)) ∧ w.alloc (.cells #[.int .i64 ch, .int .i64 so, .int .i64 su] 60) = w' := by
  have hE : Hid (phealth ch so su = if 0 ≤ ch ∧ ch ≤ 3 ∧ 1 ≤ su ∧ su ≤ 4 ∧ 0 ≤ so ∧ so ≤ su then 0 else 1) := rfl
  generalize phealth ch so su = r at *
  go_enter Try.func41, Try.ntmps41
  go_wp2_with (first | (go_at_call 30; ((with_reducible refine (refBetween _ _ _ _).mono ?_); rintro e w' ⟨rfl, rfl⟩)) | (go_at_call 17; ((with_reducible refine (refWhen _ _ _).mono ?_); rintro e w' ⟨rfl, rfl⟩)))
  all_goals go_ret
  all_goals refine ⟨ret_int ?_, rfl⟩
  all_goals rw [hE.out]
  all_goals (try unfold pwhen)
  all_goals (try simp only [Bool.or_eq_true, Bool.not_eq_true', decide_eq_false_iff_not] at *)
  all_goals (repeat' split)
  all_goals omega

theorem lawof (ch so su : Int) (w : World) (h : phealth ch so su = 0) : Calls Try.prog 77 #[.agg #[.int .i64 ch, .int .i64 so, .int .i64 su]] w fun e w' =>
    e = .returned (.int .i64 (plawof ch so su)) ∧ w.alloc (.cells #[.int .i64 ch, .int .i64 so, .int .i64 su] 60) = w' := by
  have hb : 0 ≤ ch ∧ ch ≤ 3 ∧ 1 ≤ su ∧ su ≤ 4 ∧ 0 ≤ so ∧ so ≤ su := by
    unfold phealth at h; split at h
    · assumption
    · omega
  obtain ⟨b1, b2, b3, b4, b5, b6⟩ := hb
  have hE : Hid (plawof ch so su = if so = 0 then 3 else if ch < 2 ∨ so + 2 ≤ su then 2 else if so < su then 1 else 0) := rfl
  generalize plawof ch so su = r at *
  clear h
  go_enter Try.func77, Try.ntmps77
  go_wp2
  all_goals go_ret
  all_goals refine ⟨ret_int ?_, rfl⟩
  all_goals rw [hE.out]
  all_goals (try simp only [beq_iff_eq, beq_eq_false_iff_ne, ne_eq] at *)
  all_goals (repeat' split)
  all_goals omega

theorem refLawOf (ch so su : Int) (w : World) (h : phealth ch so su = 0) : Calls Try.prog 43 #[.agg #[.int .i64 ch, .int .i64 so, .int .i64 su]] w fun e w' =>
    e = .returned (.int .i64 (plawof ch so su)) ∧ w.alloc (.cells #[.int .i64 ch, .int .i64 so, .int .i64 su] 60) = w' := by
  have hb : 0 ≤ ch ∧ ch ≤ 3 ∧ 1 ≤ su ∧ su ≤ 4 ∧ 0 ≤ so ∧ so ≤ su := by
    unfold phealth at h; split at h
    · assumption
    · omega
  obtain ⟨b1, b2, b3, b4, b5, b6⟩ := hb
  have hE : Hid (plawof ch so su = if so = 0 then 3 else if ch < 2 ∨ so + 2 ≤ su then 2 else if so < su then 1 else 0) := rfl
  generalize plawof ch so su = r at *
  clear h
  go_enter Try.func43, Try.ntmps43
  go_wp2
  all_goals go_ret
  all_goals refine ⟨ret_int ?_, rfl⟩
  all_goals rw [hE.out]
  all_goals (try simp only [beq_iff_eq, beq_eq_false_iff_ne, ne_eq] at *)
  all_goals (repeat' split)
  all_goals omega

theorem ret_pair {a b : Int} {v : Value} (h : a = b) : Ending.returned (.tuple #[.int .i64 a, v]) = .returned (.tuple #[.int .i64 b, v]) := by rw [h]

theorem lawNext_bad (now wanted : Int) (ground : Bool) (w : World) (h : ¬(0 ≤ now ∧ now ≤ 3 ∧ 0 ≤ wanted ∧ wanted ≤ 3)) : Calls Try.prog 45 #[.int .i64 now, .int .i64 wanted, .bool ground] w fun e w' =>
    e = .returned (.tuple #[.int .i64 0, errV 1]) ∧ w = w' := by
  have H := Lib.hid h
  clear h
  go_enter Try.func45, Try.ntmps45
  go_wp2
  all_goals first | (exfalso; apply H.out; omega) | skip
  all_goals go_ret2
  all_goals exact ⟨rfl, rfl⟩
theorem lawNext_t (now wanted : Int) (w : World) (a1 : 0 ≤ now) (a2 : now ≤ 3) (a3 : 0 ≤ wanted) (a4 : wanted ≤ 3) : Calls Try.prog 45 #[.int .i64 now, .int .i64 wanted, .bool true] w fun e w' =>
    e = .returned (.tuple #[.int .i64 wanted, errV 0]) ∧ w = w' := by
  go_enter Try.func45, Try.ntmps45
  go_wp2
  all_goals first | (exfalso; omega) | skip
  all_goals go_ret2
  all_goals exact ⟨rfl, rfl⟩
theorem lawNext_f (now wanted : Int) (w : World) (a1 : 0 ≤ now) (a2 : now ≤ 3) (a3 : 0 ≤ wanted) (a4 : wanted ≤ 3) : Calls Try.prog 45 #[.int .i64 now, .int .i64 wanted, .bool false] w fun e w' =>
    e = .returned (.tuple #[.int .i64 (max now wanted), errV 0]) ∧ w = w' := by
  obtain ⟨m, hm⟩ : ∃ m, m = max now wanted := ⟨_, rfl⟩
  rw [← hm]
  have HM := Lib.hid hm
  clear hm
  go_enter Try.func45, Try.ntmps45
  go_wp2
  all_goals first | (exfalso; omega) | skip
  all_goals go_ret2
  all_goals exact ⟨ret_pair (by have := HM.out; omega), rfl⟩

theorem lawGuarded (now : Int) (w : World) : Calls Try.prog 46 #[.int .i64 now] w fun e w' => e = .returned (.bool (decide (0 ≤ now) && decide (now ≤ 1))) ∧ w = w' := by
  go_enter Try.func46, Try.ntmps46
  go_wp2
  all_goals go_ret
  all_goals refine ⟨ret_bool ?_, rfl⟩
  all_goals (try simp only [beq_iff_eq, beq_eq_false_iff_ne, ne_eq] at *)
  · subst_vars; rfl
  · subst_vars; rfl
  · symm; simp; omega

/-- The scan over healths: the first error, and the worst law up to it. -/
def pscan (ch so su : Nat → Int) : Nat → Int × Int
  | 0 => (0, 0)
  | k + 1 => (por (pscan ch so su k).1 (phealth (ch k) (so k) (su k)), if por (pscan ch so su k).1 (phealth (ch k) (so k) (su k)) = 0 then max (pscan ch so su k).2 (plawof (ch k) (so k) (su k)) else (pscan ch so su k).2)
theorem phealth_01 (ch so su : Int) : phealth ch so su = 0 ∨ phealth ch so su = 1 := by unfold phealth; split <;> simp
theorem plawof_bd (ch so su : Int) : 0 ≤ plawof ch so su ∧ plawof ch so su ≤ 3 := by
  unfold plawof
  repeat' split
  all_goals omega
theorem pscan_bd (ch so su : Nat → Int) (k : Nat) : 0 ≤ (pscan ch so su k).2 ∧ (pscan ch so su k).2 ≤ 3 := by
  induction k with
  | zero => simp [pscan]
  | succ k ih =>
    have := plawof_bd (ch k) (so k) (su k)
    unfold pscan
    dsimp only
    split <;> omega
theorem pscan_stays (ch so su : Nat → Int) (k : Nat) (h : (pscan ch so su k).1 ≠ 0) (n : Nat) (hn : k ≤ n) : (pscan ch so su n).1 = (pscan ch so su k).1 := by
  induction n with
  | zero => obtain rfl : k = 0 := by omega
            rfl
  | succ n ih =>
    by_cases e : k = n + 1
    · rw [e]
    · have := ih (by omega)
      show por (pscan ch so su n).1 _ = _
      rw [this, por_ne h]
end Go.Proofs.Ytalfgmhjnfnbeaa
