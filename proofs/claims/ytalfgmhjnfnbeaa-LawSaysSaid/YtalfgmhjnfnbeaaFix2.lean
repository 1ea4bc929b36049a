/-
  fix.Sub, Div, Root; the reference's Div.
-/
import Derived.Test.YtalfgmhjnfnbeaaErr2
namespace Go.Proofs.Ytalfgmhjnfnbeaa
open Go.RowKit

theorem cells2 (w : World) (x y : Int) (t : TypeId) (g : Nat × Nat) (b : Nat) (hb : b = w.heap.size) : ∀ k, k < 2 → (w.alloc (.cells #[.int .i64 x, .int .i64 y] t g)).cell? ⟨b, k, none⟩ = some (.int .i64 ([x, y][k]?.getD 0)) := by
  subst hb
  intro k hk
  have hh : (w.alloc (.cells #[.int .i64 x, .int .i64 y] t g)).heap[w.heap.size]? = some (.cells #[.int .i64 x, .int .i64 y] t g) := heap_alloc_new w _
  rw [cell_of_row _ _ _ _ t g hh]
  match k, hk with
  | 0, _ => rfl
  | 1, _ => rfl
theorem cells3 (w : World) (x y z : Int) (t : TypeId) (g : Nat × Nat) (b : Nat) (hb : b = w.heap.size) : ∀ k, k < 3 → (w.alloc (.cells #[.int .i64 x, .int .i64 y, .int .i64 z] t g)).cell? ⟨b, k, none⟩ = some (.int .i64 ([x, y, z][k]?.getD 0)) := by
  subst hb
  intro k hk
  have hh : (w.alloc (.cells #[.int .i64 x, .int .i64 y, .int .i64 z] t g)).heap[w.heap.size]? = some (.cells #[.int .i64 x, .int .i64 y, .int .i64 z] t g) := heap_alloc_new w _
  rw [cell_of_row _ _ _ _ t g hh]
  match k, hk with
  | 0, _ => rfl
  | 1, _ => rfl
  | 2, _ => rfl
theorem cells4 (w : World) (x y z u : Int) (t : TypeId) (g : Nat × Nat) (b : Nat) (hb : b = w.heap.size) : ∀ k, k < 4 → (w.alloc (.cells #[.int .i64 x, .int .i64 y, .int .i64 z, .int .i64 u] t g)).cell? ⟨b, k, none⟩ = some (.int .i64 ([x, y, z, u][k]?.getD 0)) := by
  subst hb
  intro k hk
  have hh : (w.alloc (.cells #[.int .i64 x, .int .i64 y, .int .i64 z, .int .i64 u] t g)).heap[w.heap.size]? = some (.cells #[.int .i64 x, .int .i64 y, .int .i64 z, .int .i64 u] t g) := heap_alloc_new w _
  rw [cell_of_row _ _ _ _ t g hh]
  match k, hk with
  | 0, _ => rfl
  | 1, _ => rfl
  | 2, _ => rfl
  | 3, _ => rfl

/-- a less b. -/
def psub (a b : Int) : Int := pof (pof a - pof b)
theorem padd_sub (a b : Int) : padd [a, -pof b] = psub a b := by
  simp only [padd, List.foldl, psub, Int.zero_add, pof_pof, pof_neg]
  rfl

theorem fixSub (a b : Int) (w : World) : Calls Try.prog 38 #[.int .i64 a, .int .i64 b] w fun e w' => e = .returned (.int .i64 (psub a b)) ∧ Below w.heap.size w w' := by
  have hb1 := pof_lo b
  have hb2 := pof_hi b
  have hs : Hid (padd [a, -pof b] = psub a b) := padd_sub a b
  go_enter Try.func38, Try.ntmps38
  go_wp2_with (first | (go_at_call 36; ((with_reducible refine (fixOf _ _).mono ?_); rintro e w' ⟨rfl, rfl⟩)) | (go_at_call 37; ((with_reducible refine (fixAdd _ _ [a, -pof b] 2 _ rfl (by omega) (cells2 _ _ _ _ _ _ (by simp))).mono ?_); rintro e w' ⟨rfl, rfl⟩)))
  go_ret
  exact ⟨ret_int hs.out, (Below.refl _ _).alloc (Nat.le_refl _) _⟩

theorem half_any (n d : Int) (w : World) (hd : 0 < d) (hd2 : d ≤ 2147483647) (h2 : n ≤ 549755813632) (hp : 0 ≤ n) :
    Calls Try.prog 74 #[.int .i64 n, .int .i64 d] w fun e w' => e = .returned (.int .i64 (pof ((2 * n + d) / (2 * d)))) ∧ w = w' := by
  go_enter Try.func74, Try.ntmps74
  go_wp2_with (go_at_call 36; ((with_reducible refine (fixOf _ _).mono ?_); rintro e w' ⟨rfl, rfl⟩))
  go_ret
  exact ⟨rfl, rfl⟩

theorem refDiv (a b : Int) (w : World) (h0 : b ≠ 0) : Calls Try.prog 35 #[.int .i64 a, .int .i64 b] w fun e w' => e = .returned (.int .i64 (pdiv a b)) ∧ w = w' := by
  have ha1 := pof_lo a
  have ha2 := pof_hi a
  have hb1 := pof_lo b
  have hb2 := pof_hi b
  have hb0 : pof b ≠ 0 := by unfold pof; repeat' split <;> omega
  by_cases hb : pof b < 0
  · have hE : Hid (pdiv a b = pof (paway (-(pof a * 256)) (-(pof b)))) := by unfold Hid pdiv; rw [if_pos hb, Int.neg_mul]
    clear h0
    generalize pdiv a b = r at *
    go_enter Try.func35, Try.ntmps35
    go_wp2_with (first | (go_at_call 23; ((with_reducible refine (refOf _ _).mono ?_); rintro e w' ⟨rfl, rfl⟩)) | (go_at_call 75; ((with_reducible refine (away_any _ _ _ (by omega) (by omega) (by omega) (by omega)).mono ?_); rintro e w' ⟨rfl, rfl⟩)))
    go_ret
    exact ⟨ret_int hE.out.symm, rfl⟩
  · have hE : Hid (pdiv a b = pof (paway (pof a * 256) (pof b))) := by unfold Hid pdiv; rw [if_neg hb]
    have hb3 : 0 < pof b := by omega
    clear h0 hb0
    generalize pdiv a b = r at *
    go_enter Try.func35, Try.ntmps35
    go_wp2_with (first | (go_at_call 23; ((with_reducible refine (refOf _ _).mono ?_); rintro e w' ⟨rfl, rfl⟩)) | (go_at_call 75; ((with_reducible refine (away_any _ _ _ (by omega) (by omega) (by omega) (by omega)).mono ?_); rintro e w' ⟨rfl, rfl⟩)))
    go_ret
    exact ⟨ret_int hE.out.symm, rfl⟩

theorem fixDiv (a b : Int) (w : World) : Calls Try.prog 34 #[.int .i64 a, .int .i64 b] w fun e w' => e = .returned (.tuple #[.int .i64 (if b = 0 then 0 else pdiv a b), errV (if b = 0 then 4 else 0)]) ∧ w = w' := by
  have ha1 := pof_lo a
  have ha2 := pof_hi a
  have hb1 := pof_lo b
  have hb2 := pof_hi b
  by_cases h0 : b = 0
  · rw [if_pos h0, if_pos h0]
    have hb0 : (pof b == 0) = true := by subst h0; rfl
    clear h0
    go_enter Try.func34, Try.ntmps34
    go_wp2_with (go_at_call 36; ((with_reducible refine (fixOf _ _).mono ?_); rintro e w' ⟨rfl, rfl⟩))
    go_ret2
    exact ⟨rfl, rfl⟩
  · rw [if_neg h0, if_neg h0]
    have hb0 : pof b ≠ 0 := by unfold pof; repeat' split <;> omega
    clear h0
    have hbz : (pof b == 0) = false := by simpa using hb0
    by_cases hb : pof b < 0
    · by_cases ha : pof a ≤ 0
      · have hE : Hid (pdiv a b = pof ((2 * (-(pof a) * 256) + -(pof b)) / (2 * -(pof b)))) := by
          unfold Hid pdiv paway; rw [if_pos hb, if_neg (by omega)]
        generalize pdiv a b = r at *
        go_enter Try.func34, Try.ntmps34
        go_wp2_with (first | (go_at_call 36; ((with_reducible refine (fixOf _ _).mono ?_); rintro e w' ⟨rfl, rfl⟩)) | (go_at_call 74; ((with_reducible refine (half_any _ _ _ (by omega) (by omega) (by omega) (by omega)).mono ?_); rintro e w' ⟨rfl, rfl⟩)))
        go_ret2
        exact ⟨by rw [hE.out, pof_pof]; rfl, rfl⟩
      · have hE : Hid (pdiv a b = -(pof ((2 * (pof a * 256) + -(pof b)) / (2 * -(pof b))))) := by
          unfold Hid pdiv paway; rw [if_pos hb, if_pos (by omega), pof_neg]
          congr 4; omega
        generalize pdiv a b = r at *
        have hq1 := pof_lo ((2 * (pof a * 256) + -(pof b)) / (2 * -(pof b)))
        have hq2 := pof_hi ((2 * (pof a * 256) + -(pof b)) / (2 * -(pof b)))
        go_enter Try.func34, Try.ntmps34
        go_wp2_with (first | (go_at_call 36; ((with_reducible refine (fixOf _ _).mono ?_); rintro e w' ⟨rfl, rfl⟩)) | (go_at_call 74; ((with_reducible refine (half_any _ _ _ (by omega) (by omega) (by omega) (by omega)).mono ?_); rintro e w' ⟨rfl, rfl⟩)))
        go_ret2
        exact ⟨by rw [hE.out]; rfl, rfl⟩
    · have hb3 : 0 < pof b := by omega
      clear hb0
      by_cases ha : 0 ≤ pof a
      · have hE : Hid (pdiv a b = pof ((2 * (pof a * 256) + pof b) / (2 * pof b))) := by
          unfold Hid pdiv paway; rw [if_neg hb, if_neg (by omega)]
        generalize pdiv a b = r at *
        go_enter Try.func34, Try.ntmps34
        go_wp2_with (first | (go_at_call 36; ((with_reducible refine (fixOf _ _).mono ?_); rintro e w' ⟨rfl, rfl⟩)) | (go_at_call 74; ((with_reducible refine (half_any _ _ _ (by omega) (by omega) (by omega) (by omega)).mono ?_); rintro e w' ⟨rfl, rfl⟩)))
        go_ret2
        exact ⟨by rw [hE.out, pof_pof]; rfl, rfl⟩
      · have hE : Hid (pdiv a b = -(pof ((2 * (-(pof a) * 256) + pof b) / (2 * pof b)))) := by
          unfold Hid pdiv paway; rw [if_neg hb, if_pos (by omega), pof_neg, Int.neg_mul]
        generalize pdiv a b = r at *
        have hq1 := pof_lo ((2 * (-(pof a) * 256) + pof b) / (2 * pof b))
        have hq2 := pof_hi ((2 * (-(pof a) * 256) + pof b) / (2 * pof b))
        go_enter Try.func34, Try.ntmps34
        go_wp2_with (first | (go_at_call 36; ((with_reducible refine (fixOf _ _).mono ?_); rintro e w' ⟨rfl, rfl⟩)) | (go_at_call 74; ((with_reducible refine (half_any _ _ _ (by omega) (by omega) (by omega) (by omega)).mono ?_); rintro e w' ⟨rfl, rfl⟩)))
        go_ret2
        exact ⟨by rw [hE.out]; rfl, rfl⟩
end Go.Proofs.Ytalfgmhjnfnbeaa
