/-
  The reference's Word: a reading's word, bit by bit.
-/
import Derived.Test.YtdfpenjhpemokaaWord
set_option linter.unusedVariables false
set_option linter.unusedSimpArgs false
namespace Go.Proofs.Ytdfpenjhpemokaa
open Go.RowKit
theorem ret_word {a b : Int} (h : a = b) : Ending.returned (.int .u32 a) = .returned (.int .u32 b) := by rw [h]
/-- The odd bit, set. -/
def add31 (x : Nat) : Nat := x + 2147483648
/-- A word put together: with the sum of the label (turned), the source, the data's nineteen bits and the status; with a bit that makes its ones odd. -/
def pword (T s t D : Nat) : Nat := if podd (T + s * 256 + D * 1024 + t * 536870912) then T + s * 256 + D * 1024 + t * 536870912 else add31 (T + s * 256 + D * 1024 + t * 536870912)
theorem data_step (U D k V : Nat) (hk : k < 19) (hU : U < 2147483648) (h : Hid (U + D % 2 ^ k * 1024 = V)) : (((V : Int) + (D : Int) / 2 ^ k % 2 * 2 ^ (10 + k) % 4294967296) % 4294967296) = ((U + D % 2 ^ (k + 1) * 1024 : Nat) : Int) := by
  rw [mod_snoc, ebit, two_pow_cast, ← h.out, Nat.pow_add]
  have h1 : 2 ^ k ≤ 2 ^ 18 := Nat.pow_le_pow_right (by omega) (by omega)
  have h2 := Nat.mod_lt D (Nat.pow_pos (n := k) (show 0 < 2 by omega))
  generalize D / 2 ^ k = y at *
  generalize D % 2 ^ k = x at *
  generalize 2 ^ k = p at *
  rcases Nat.mod_two_eq_zero_or_one y with e | e <;> rw [e] <;> omega
theorem refOdd_is (x : Nat) (o : Bool) (w : World) (hx : x < 4294967296) (h : Unit → podd x = o) : Calls Try.prog 31 #[.int .u32 x] w fun e w' => e = .returned (.bool o) ∧ w = w' := by
  rw [← h ()]; exact refOdd x w hx

set_option maxHeartbeats 1000000 in
theorem refWordP (l s t D T Q : Nat) (w : World) (h1 : l < 256) (h2 : s < 4) (h3 : t < 4) (h4 : D < 262144) (ht : T < 256) (hT : Hid (turn8 l = T)) (hQ : Unit → pword T s t D = Q) : Calls Try.prog 36 #[.agg #[.int .i64 l, .int .i64 s, .int .i64 t, .int .i64 D]] w fun e w' => e = .returned (.int .u32 Q) ∧ Below w.heap.size w w' := by
    have hnn : ¬ (D : Int) < 0 := by omega
    go_enter Try.func36, Try.ntmps36
    go_wp2
    go_loop [4, 5] (fun a i => ∃ k : Nat, k ≤ 8 ∧ i = .int .i64 k ∧ a = .int .u32 ((la l k : Nat) : Int)) (fun _ i => 8 - (intOf i).toNat)
    case atStart => exact ⟨0, by omega, rfl, rfl⟩
    case round =>
      obtain ⟨k, hk, rfl, rfl⟩ := hrel
      have hl := la_lt l k
      have e1 : Hid (la l (k + 1) = la l k + l / 2 ^ (7 - k) % 2 * 2 ^ k) := rfl
      have e2 : Hid (k = 8 → la l k = T) := fun h => by subst h; exact (la8 l).trans hT.out
      have HL := Lib.hid hl
      clear hl
      generalize la l k = A at *
      by_cases hlt : k < 8
      · go_wp2_with (go_at_call 126; ((with_reducible refine (refBit _ _ _ (by omega) (by omega) (by omega) (by omega)).mono ?_); rintro e w' ⟨rfl, rfl⟩))
        go_round
        case rel => exact ⟨k + 1, by omega, by go_num, by rw [e1.out]; exact ret_u32 (la_step A l k hlt HL.out)⟩
        case measure => simp [intOf]; omega
      · have hA := (e2.out (by omega)).symm
        subst hA
        clear e1 HL
        go_wp2_with fail
        go_loopw [4, 6] (fun a i wr => ∃ k : Nat, k ≤ 2 ∧ i = .int .i64 k ∧ a = .int .u32 ((T + s % 2 ^ k * 256 + t % 2 ^ k * 536870912 : Nat) : Int) ∧ Below w.heap.size w wr ∧ wr.cell? ⟨w.heap.size, 1, none⟩ = some (.int .i64 s) ∧ wr.cell? ⟨w.heap.size, 2, none⟩ = some (.int .i64 t)) (fun _ i _ => 2 - (intOf i).toNat)
        case atStart => exact ⟨0, by omega, rfl, by simp [Nat.mod_one], by (repeat' (first | (with_reducible exact Below.refl _ _) | (with_reducible assumption) | (with_reducible refine Below.alloc ?_ ?_ _) | (with_reducible refine Below.drew ?_) | (with_reducible refine below_drewN ?_ _) | (with_reducible refine Below.setCell ?_ ?_ _) | (with_reducible refine Below.trans ?_ (Below.mono (by assumption) ?_)) | omega | (simp; omega) | (simp; done))), by simp, by simp⟩
        case round =>
          obtain ⟨k, hk, rfl, rfl, hbw, hc1, hc2⟩ := hrel
          generalize hU : T + s % 2 ^ k * 256 + t % 2 ^ k * 536870912 = U at *
          have HU := Lib.hid hU
          clear hU
          by_cases hlt : k < 2
          · have f1 : IntKind.i64.wrap 8 = 8 := wraps_i64 _ (by omega) (by omega)
            have f2 : IntKind.i64.wrap 29 = 29 := wraps_i64 _ (by omega) (by omega)
            have f3 : IntKind.i64.wrap 9 = 9 := wraps_i64 _ (by omega) (by omega)
            have f4 : IntKind.i64.wrap 30 = 30 := wraps_i64 _ (by omega) (by omega)
            obtain rfl | rfl : k = 0 ∨ k = 1 := by omega
            · go_wp2_with fail
              go_region_held3 (fun ω => ω.cell? ⟨w.heap.size, 1, none⟩ = some (.int .i64 s) ∧ ω.cell? ⟨w.heap.size, 2, none⟩ = some (.int .i64 t)) (first | (refine ⟨?_, ?_⟩ <;> (repeat' (first | (with_reducible assumption) | (with_reducible refine cell_alloc_keep ?_) | (with_reducible refine cell_drew_keep ?_) | (with_reducible refine cell_drewN_keep ?_) | (with_reducible refine cell_set_keep ?_ ?_) | (with_reducible refine cell_below (by assumption) ?_ ?_) | omega | (simp; done) | (simp; omega))) <;> done) | go_keep) (first | (go_at_call 126; ((with_reducible refine (refBit _ _ _ (by omega) (by omega) (by omega) (by omega)).mono ?_); rintro e w' ⟨rfl, rfl⟩)))
              go_wp2
              go_roundw
              case rel => exact ⟨1, by omega, by go_num, ret_u32 (by have := HU.out; simp only [IntKind.wrap_u32]; omega), by (repeat' (first | (with_reducible exact Below.refl _ _) | (with_reducible assumption) | (with_reducible refine Below.alloc ?_ ?_ _) | (with_reducible refine Below.drew ?_) | (with_reducible refine below_drewN ?_ _) | (with_reducible refine Below.setCell ?_ ?_ _) | (with_reducible refine Below.trans ?_ (Below.mono (by assumption) ?_)) | omega | (simp; omega) | (simp; done))), hc1, hc2⟩
              case measure => simp [intOf]
            · go_wp2_with fail
              go_region_held3 (fun ω => ω.cell? ⟨w.heap.size, 1, none⟩ = some (.int .i64 s) ∧ ω.cell? ⟨w.heap.size, 2, none⟩ = some (.int .i64 t)) (first | (refine ⟨?_, ?_⟩ <;> (repeat' (first | (with_reducible assumption) | (with_reducible refine cell_alloc_keep ?_) | (with_reducible refine cell_drew_keep ?_) | (with_reducible refine cell_drewN_keep ?_) | (with_reducible refine cell_set_keep ?_ ?_) | (with_reducible refine cell_below (by assumption) ?_ ?_) | omega | (simp; done) | (simp; omega))) <;> done) | go_keep) (first | (go_at_call 126; ((with_reducible refine (refBit _ _ _ (by omega) (by omega) (by omega) (by omega)).mono ?_); rintro e w' ⟨rfl, rfl⟩)))
              go_wp2
              go_roundw
              case rel => exact ⟨2, by omega, by go_num, ret_u32 (by have := HU.out; simp only [IntKind.wrap_u32]; omega), by (repeat' (first | (with_reducible exact Below.refl _ _) | (with_reducible assumption) | (with_reducible refine Below.alloc ?_ ?_ _) | (with_reducible refine Below.drew ?_) | (with_reducible refine below_drewN ?_ _) | (with_reducible refine Below.setCell ?_ ?_ _) | (with_reducible refine Below.trans ?_ (Below.mono (by assumption) ?_)) | omega | (simp; omega) | (simp; done))), hc1, hc2⟩
              case measure => simp [intOf]
          · have hk2 : k = 2 := by omega
            have hB : Hid (T + s * 256 + t * 536870912 = U) := by have h9 := HU.out; rw [hk2, Nat.mod_eq_of_lt (show s < 2 ^ 2 by omega), Nat.mod_eq_of_lt (show t < 2 ^ 2 by omega)] at h9; exact h9
            have hUb : U < 2147483648 := by have := hB.out; omega
            clear HU hk2
            go_wp2_with fail
            have z0 : Value.int .u32 (U : Int) = .int .u32 ((U + D % 2 ^ 0 * 1024 : Nat) : Int) := by rw [Nat.pow_zero, Nat.mod_one, Nat.zero_mul, Nat.add_zero]
            have Z0 := Lib.hid z0
            clear z0
            go_loop [4, 7] (fun a i => ∃ k : Nat, k ≤ 19 ∧ i = .int .i64 k ∧ a = .int .u32 ((U + D % 2 ^ k * 1024 : Nat) : Int)) (fun _ i => 19 - (intOf i).toNat)
            case atStart => exact ⟨0, by omega, rfl, Z0.out⟩
            case round =>
              obtain ⟨k, hk, rfl, rfl⟩ := hrel
              clear Z0
              generalize hV : U + D % 2 ^ k * 1024 = V at *
              have HV := Lib.hid hV
              clear hV
              by_cases hlt : k < 19
              · go_wp2_with (go_at_call 126; ((with_reducible refine (refBit _ _ _ (by omega) (by omega) (by omega) (by omega)).mono ?_); rintro e w' ⟨rfl, rfl⟩))
                go_round
                case rel => exact ⟨k + 1, by omega, by go_num, ret_u32 (data_step U D k V (by omega) hUb HV)⟩
                case measure => simp [intOf]; omega
              · have hk2 : k = 19 := by omega
                have hC : Hid (U + D * 1024 = V) := by have h9 := HV.out; rw [hk2, Nat.mod_eq_of_lt (show D < 2 ^ 19 by omega)] at h9; exact h9
                have hVb : V < 2147483648 := by have h9 := hC.out; have h8 := hB.out; omega
                obtain ⟨o, ho⟩ : ∃ o, Unit → podd V = o := ⟨_, fun _ => rfl⟩
                have hP : Hid (Q = if o then V else add31 V) := by
                  rw [Hid, ← hQ ()]
                  unfold pword
                  rw [show T + s * 256 + D * 1024 + t * 536870912 = V by rw [← hC.out, ← hB.out]; omega, ho ()]
                clear HV hk2 hC hB hQ
                cases o
                · have hQ : Hid (add31 V = Q) := hP.out.symm
                  clear hP
                  go_wp2_with (go_at_call 31; ((with_reducible refine (refOdd_is _ _ _ (by omega) ho).mono ?_); rintro e w' ⟨rfl, rfl⟩))
                  go_ret
                  exact ⟨ret_word (by rw [← hQ.out]; unfold add31; omega), hbw⟩
                · have hQ : Hid (V = Q) := hP.out.symm
                  clear hP
                  go_wp2_with (go_at_call 31; ((with_reducible refine (refOdd_is _ _ _ (by omega) ho).mono ?_); rintro e w' ⟨rfl, rfl⟩))
                  go_ret
                  exact ⟨ret_word (by rw [hQ.out]), hbw⟩

set_option maxHeartbeats 1000000 in
theorem refWordN (l s t D T Q : Nat) (w : World) (h1 : l < 256) (h2 : s < 4) (h3 : t < 4) (h4 : D < 524288) (d : Int) (h5 : d < 0) (h6 : -262144 ≤ d) (hd : Hid (d + 524288 = D)) (ht : T < 256) (hT : Hid (turn8 l = T)) (hQ : Unit → pword T s t D = Q) : Calls Try.prog 36 #[.agg #[.int .i64 l, .int .i64 s, .int .i64 t, .int .i64 d]] w fun e w' => e = .returned (.int .u32 Q) ∧ Below w.heap.size w w' := by
    go_enter Try.func36, Try.ntmps36
    go_wp2
    rw [hd.out]
    go_loop [4, 5] (fun a i => ∃ k : Nat, k ≤ 8 ∧ i = .int .i64 k ∧ a = .int .u32 ((la l k : Nat) : Int)) (fun _ i => 8 - (intOf i).toNat)
    case atStart => exact ⟨0, by omega, rfl, rfl⟩
    case round =>
      obtain ⟨k, hk, rfl, rfl⟩ := hrel
      have hl := la_lt l k
      have e1 : Hid (la l (k + 1) = la l k + l / 2 ^ (7 - k) % 2 * 2 ^ k) := rfl
      have e2 : Hid (k = 8 → la l k = T) := fun h => by subst h; exact (la8 l).trans hT.out
      have HL := Lib.hid hl
      clear hl
      generalize la l k = A at *
      by_cases hlt : k < 8
      · go_wp2_with (go_at_call 126; ((with_reducible refine (refBit _ _ _ (by omega) (by omega) (by omega) (by omega)).mono ?_); rintro e w' ⟨rfl, rfl⟩))
        go_round
        case rel => exact ⟨k + 1, by omega, by go_num, by rw [e1.out]; exact ret_u32 (la_step A l k hlt HL.out)⟩
        case measure => simp [intOf]; omega
      · have hA := (e2.out (by omega)).symm
        subst hA
        clear e1 HL
        go_wp2_with fail
        go_loopw [4, 6] (fun a i wr => ∃ k : Nat, k ≤ 2 ∧ i = .int .i64 k ∧ a = .int .u32 ((T + s % 2 ^ k * 256 + t % 2 ^ k * 536870912 : Nat) : Int) ∧ Below w.heap.size w wr ∧ wr.cell? ⟨w.heap.size, 1, none⟩ = some (.int .i64 s) ∧ wr.cell? ⟨w.heap.size, 2, none⟩ = some (.int .i64 t)) (fun _ i _ => 2 - (intOf i).toNat)
        case atStart => exact ⟨0, by omega, rfl, by simp [Nat.mod_one], by (repeat' (first | (with_reducible exact Below.refl _ _) | (with_reducible assumption) | (with_reducible refine Below.alloc ?_ ?_ _) | (with_reducible refine Below.drew ?_) | (with_reducible refine below_drewN ?_ _) | (with_reducible refine Below.setCell ?_ ?_ _) | (with_reducible refine Below.trans ?_ (Below.mono (by assumption) ?_)) | omega | (simp; omega) | (simp; done))), by simp, by simp⟩
        case round =>
          obtain ⟨k, hk, rfl, rfl, hbw, hc1, hc2⟩ := hrel
          generalize hU : T + s % 2 ^ k * 256 + t % 2 ^ k * 536870912 = U at *
          have HU := Lib.hid hU
          clear hU
          by_cases hlt : k < 2
          · have f1 : IntKind.i64.wrap 8 = 8 := wraps_i64 _ (by omega) (by omega)
            have f2 : IntKind.i64.wrap 29 = 29 := wraps_i64 _ (by omega) (by omega)
            have f3 : IntKind.i64.wrap 9 = 9 := wraps_i64 _ (by omega) (by omega)
            have f4 : IntKind.i64.wrap 30 = 30 := wraps_i64 _ (by omega) (by omega)
            obtain rfl | rfl : k = 0 ∨ k = 1 := by omega
            · go_wp2_with fail
              go_region_held3 (fun ω => ω.cell? ⟨w.heap.size, 1, none⟩ = some (.int .i64 s) ∧ ω.cell? ⟨w.heap.size, 2, none⟩ = some (.int .i64 t)) (first | (refine ⟨?_, ?_⟩ <;> (repeat' (first | (with_reducible assumption) | (with_reducible refine cell_alloc_keep ?_) | (with_reducible refine cell_drew_keep ?_) | (with_reducible refine cell_drewN_keep ?_) | (with_reducible refine cell_set_keep ?_ ?_) | (with_reducible refine cell_below (by assumption) ?_ ?_) | omega | (simp; done) | (simp; omega))) <;> done) | go_keep) (first | (go_at_call 126; ((with_reducible refine (refBit _ _ _ (by omega) (by omega) (by omega) (by omega)).mono ?_); rintro e w' ⟨rfl, rfl⟩)))
              go_wp2
              go_roundw
              case rel => exact ⟨1, by omega, by go_num, ret_u32 (by have := HU.out; simp only [IntKind.wrap_u32]; omega), by (repeat' (first | (with_reducible exact Below.refl _ _) | (with_reducible assumption) | (with_reducible refine Below.alloc ?_ ?_ _) | (with_reducible refine Below.drew ?_) | (with_reducible refine below_drewN ?_ _) | (with_reducible refine Below.setCell ?_ ?_ _) | (with_reducible refine Below.trans ?_ (Below.mono (by assumption) ?_)) | omega | (simp; omega) | (simp; done))), hc1, hc2⟩
              case measure => simp [intOf]
            · go_wp2_with fail
              go_region_held3 (fun ω => ω.cell? ⟨w.heap.size, 1, none⟩ = some (.int .i64 s) ∧ ω.cell? ⟨w.heap.size, 2, none⟩ = some (.int .i64 t)) (first | (refine ⟨?_, ?_⟩ <;> (repeat' (first | (with_reducible assumption) | (with_reducible refine cell_alloc_keep ?_) | (with_reducible refine cell_drew_keep ?_) | (with_reducible refine cell_drewN_keep ?_) | (with_reducible refine cell_set_keep ?_ ?_) | (with_reducible refine cell_below (by assumption) ?_ ?_) | omega | (simp; done) | (simp; omega))) <;> done) | go_keep) (first | (go_at_call 126; ((with_reducible refine (refBit _ _ _ (by omega) (by omega) (by omega) (by omega)).mono ?_); rintro e w' ⟨rfl, rfl⟩)))
              go_wp2
              go_roundw
              case rel => exact ⟨2, by omega, by go_num, ret_u32 (by have := HU.out; simp only [IntKind.wrap_u32]; omega), by (repeat' (first | (with_reducible exact Below.refl _ _) | (with_reducible assumption) | (with_reducible refine Below.alloc ?_ ?_ _) | (with_reducible refine Below.drew ?_) | (with_reducible refine below_drewN ?_ _) | (with_reducible refine Below.setCell ?_ ?_ _) | (with_reducible refine Below.trans ?_ (Below.mono (by assumption) ?_)) | omega | (simp; omega) | (simp; done))), hc1, hc2⟩
              case measure => simp [intOf]
          · have hk2 : k = 2 := by omega
            have hB : Hid (T + s * 256 + t * 536870912 = U) := by have h9 := HU.out; rw [hk2, Nat.mod_eq_of_lt (show s < 2 ^ 2 by omega), Nat.mod_eq_of_lt (show t < 2 ^ 2 by omega)] at h9; exact h9
            have hUb : U < 2147483648 := by have := hB.out; omega
            clear HU hk2
            go_wp2_with fail
            have z0 : Value.int .u32 (U : Int) = .int .u32 ((U + D % 2 ^ 0 * 1024 : Nat) : Int) := by rw [Nat.pow_zero, Nat.mod_one, Nat.zero_mul, Nat.add_zero]
            have Z0 := Lib.hid z0
            clear z0
            go_loop [4, 7] (fun a i => ∃ k : Nat, k ≤ 19 ∧ i = .int .i64 k ∧ a = .int .u32 ((U + D % 2 ^ k * 1024 : Nat) : Int)) (fun _ i => 19 - (intOf i).toNat)
            case atStart => exact ⟨0, by omega, rfl, Z0.out⟩
            case round =>
              obtain ⟨k, hk, rfl, rfl⟩ := hrel
              clear Z0
              generalize hV : U + D % 2 ^ k * 1024 = V at *
              have HV := Lib.hid hV
              clear hV
              by_cases hlt : k < 19
              · go_wp2_with (go_at_call 126; ((with_reducible refine (refBit _ _ _ (by omega) (by omega) (by omega) (by omega)).mono ?_); rintro e w' ⟨rfl, rfl⟩))
                go_round
                case rel => exact ⟨k + 1, by omega, by go_num, ret_u32 (data_step U D k V (by omega) hUb HV)⟩
                case measure => simp [intOf]; omega
              · have hk2 : k = 19 := by omega
                have hC : Hid (U + D * 1024 = V) := by have h9 := HV.out; rw [hk2, Nat.mod_eq_of_lt (show D < 2 ^ 19 by omega)] at h9; exact h9
                have hVb : V < 2147483648 := by have h9 := hC.out; have h8 := hB.out; omega
                obtain ⟨o, ho⟩ : ∃ o, Unit → podd V = o := ⟨_, fun _ => rfl⟩
                have hP : Hid (Q = if o then V else add31 V) := by
                  rw [Hid, ← hQ ()]
                  unfold pword
                  rw [show T + s * 256 + D * 1024 + t * 536870912 = V by rw [← hC.out, ← hB.out]; omega, ho ()]
                clear HV hk2 hC hB hQ
                cases o
                · have hQ : Hid (add31 V = Q) := hP.out.symm
                  clear hP
                  go_wp2_with (go_at_call 31; ((with_reducible refine (refOdd_is _ _ _ (by omega) ho).mono ?_); rintro e w' ⟨rfl, rfl⟩))
                  go_ret
                  exact ⟨ret_word (by rw [← hQ.out]; unfold add31; omega), hbw⟩
                · have hQ : Hid (V = Q) := hP.out.symm
                  clear hP
                  go_wp2_with (go_at_call 31; ((with_reducible refine (refOdd_is _ _ _ (by omega) ho).mono ?_); rintro e w' ⟨rfl, rfl⟩))
                  go_ret
                  exact ⟨ret_word (by rw [hQ.out]), hbw⟩

/-- The nineteen bits of a number. -/
def bits19 (d : Int) : Nat := (d % 524288).toNat
theorem bits19_lt (d : Int) : bits19 d < 524288 := by unfold bits19; omega
theorem refWord (l s t : Nat) (d : Int) (w : World) (h1 : l < 256) (h2 : s < 4) (h3 : t < 4) (h4 : -262144 ≤ d) (h5 : d ≤ 262143) : Calls Try.prog 36 #[.agg #[.int .i64 l, .int .i64 s, .int .i64 t, .int .i64 d]] w fun e w' => e = .returned (.int .u32 (pword (turn8 l) s t (bits19 d) : Nat)) ∧ Below w.heap.size w w' := by
  by_cases hd : d < 0
  · exact refWordN l s t (bits19 d) (turn8 l) _ w h1 h2 h3 (bits19_lt d) d hd h4 (by unfold Hid bits19; omega) (turn8_lt l) rfl (fun _ => rfl)
  · obtain ⟨D, rfl⟩ := Int.eq_ofNat_of_zero_le (by omega : 0 ≤ d)
    have e : bits19 (D : Int) = D := by unfold bits19; omega
    rw [e]
    exact refWordP l s t D (turn8 l) _ w h1 h2 h3 (by omega) (turn8_lt l) rfl (fun _ => rfl)
end Go.Proofs.Ytdfpenjhpemokaa
