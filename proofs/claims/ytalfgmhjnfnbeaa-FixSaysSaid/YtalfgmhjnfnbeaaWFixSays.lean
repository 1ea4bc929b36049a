/-
  The law FixSays walked.
-/
import Derived.Test.YtalfgmhjnfnbeaaFrame
import Derived.Test.YtalfgmhjnfnbeaaFix2
namespace Go.Proofs.Ytalfgmhjnfnbeaa
open Go.RowKit

theorem padd3 (a b c : Int) : padd [a, b, c] = pof (pof (pof a + pof b) + pof c) := by
  simp only [padd, List.foldl, Int.zero_add, pof_pof]

theorem fixDiv_0 (a b : Int) (w : World) (h : b = 0) : Calls Try.prog 34 #[.int .i64 a, .int .i64 b] w fun e w' => e = .returned (.tuple #[.int .i64 0, errV 4]) ∧ w = w' := by
  have := fixDiv a b w
  rwa [if_pos h, if_pos h] at this
theorem fixDiv_n (a b : Int) (w : World) (h : ¬ b = 0) : Calls Try.prog 34 #[.int .i64 a, .int .i64 b] w fun e w' => e = .returned (.tuple #[.int .i64 (pdiv a b), errV 0]) ∧ w = w' := by
  have := fixDiv a b w
  rwa [if_neg h, if_neg h] at this

theorem FixSays_core (a b c : Int) (_ : B64 a) (_ : B64 b) (_ : B64 c) (w : World) : Calls Try.prog 8 #[.int .i64 a, .int .i64 b, .int .i64 c] w fun e w' => e = .returned (.bool true) ∧ Below w.heap.size w w' := by
  have ha1 := pof_lo a
  have ha2 := pof_hi a
  have hb1 := pof_lo b
  have hb2 := pof_hi b
  have hc1 := pof_lo c
  have hc2 := pof_hi c
  have hs1 := pof_lo (pof a + pof b)
  have hs2 := pof_hi (pof a + pof b)
  have hadd := padd3 a b c
  have hsub : psub a b = pof (pof a - pof b) := rfl
  by_cases h0 : b = 0
  · have hz : (b == 0) = true := by simpa using h0
    have H0 := Lib.hid h0
    clear h0
    go_enter Try.func8, Try.ntmps8
    go_wp2_with (first | (go_at_call 34; ((with_reducible refine (fixDiv_0 _ _ _ H0.out).mono ?_); rintro e w' ⟨rfl, rfl⟩)) | (go_at_call 17; ((with_reducible refine (refWhen _ _ _).mono ?_); rintro e w' ⟨rfl, rfl⟩)) | (go_at_call 23; ((with_reducible refine (refOf _ _).mono ?_); rintro e w' ⟨rfl, rfl⟩)) | (go_at_call 21; ((with_reducible refine (refIs _ _ _).mono ?_); rintro e w' ⟨rfl, rfl⟩)) | (go_at_call 36; ((with_reducible refine (fixOf _ _).mono ?_); rintro e w' ⟨rfl, rfl⟩)) | (go_at_call 37; ((with_reducible refine (fixAdd_nil _ _).mono ?_); rintro e w' ⟨rfl, rfl⟩)) | (go_at_call 37; ((with_reducible refine (fixAdd _ _ [a, b, c] 3 _ rfl (by omega) (cells3 _ _ _ _ _ _)).mono ?_); rintro e w' ⟨rfl, rfl⟩)) | (go_at_call 38; ((with_reducible refine (fixSub _ _ _).mono ?_); rintro e w' ⟨rfl, hb⟩)) | (go_at_call 39; ((with_reducible refine (fixMul _ _ _).mono ?_); rintro e w' ⟨rfl, rfl⟩)) | (go_at_call 40; ((with_reducible refine (refMul _ _ _).mono ?_); rintro e w' ⟨rfl, rfl⟩)))
    go_ret
    exact ⟨rfl, ((Below.refl _ _).alloc (Nat.le_refl _) _).trans (hb.mono (by simp))⟩
  · have hz : (b == 0) = false := by simpa using h0
    have H0 := Lib.hid h0
    clear h0
    go_enter Try.func8, Try.ntmps8
    go_wp2_with (first | (go_at_call 34; ((with_reducible refine (fixDiv_n _ _ _ H0.out).mono ?_); rintro e w' ⟨rfl, rfl⟩)) | (go_at_call 35; ((with_reducible refine (refDiv _ _ _ H0.out).mono ?_); rintro e w' ⟨rfl, rfl⟩)) | (go_at_call 17; ((with_reducible refine (refWhen _ _ _).mono ?_); rintro e w' ⟨rfl, rfl⟩)) | (go_at_call 23; ((with_reducible refine (refOf _ _).mono ?_); rintro e w' ⟨rfl, rfl⟩)) | (go_at_call 21; ((with_reducible refine (refIs _ _ _).mono ?_); rintro e w' ⟨rfl, rfl⟩)) | (go_at_call 36; ((with_reducible refine (fixOf _ _).mono ?_); rintro e w' ⟨rfl, rfl⟩)) | (go_at_call 37; ((with_reducible refine (fixAdd_nil _ _).mono ?_); rintro e w' ⟨rfl, rfl⟩)) | (go_at_call 37; ((with_reducible refine (fixAdd _ _ [a, b, c] 3 _ rfl (by omega) (cells3 _ _ _ _ _ _)).mono ?_); rintro e w' ⟨rfl, rfl⟩)) | (go_at_call 38; ((with_reducible refine (fixSub _ _ _).mono ?_); rintro e w' ⟨rfl, hb⟩)) | (go_at_call 39; ((with_reducible refine (fixMul _ _ _).mono ?_); rintro e w' ⟨rfl, rfl⟩)) | (go_at_call 40; ((with_reducible refine (refMul _ _ _).mono ?_); rintro e w' ⟨rfl, rfl⟩)))
    go_ret
    exact ⟨rfl, ((Below.refl _ _).alloc (Nat.le_refl _) _).trans (hb.mono (by simp))⟩
end Go.Proofs.Ytalfgmhjnfnbeaa
