/-
  Package word: Check, Pack; the reference's ReadingMay.
-/
import Derived.Test.YtdfpenjhpemokaaWord2
import Derived.Test.YtdfpenjhpemokaaWord3
import Derived.BigGuardPart
set_option linter.unusedVariables false
set_option linter.unusedSimpArgs false
namespace Go.Proofs.Ytdfpenjhpemokaa
open Go.RowKit
def pread (l s t d : Int) : Int := if 0 ≤ l ∧ l ≤ 255 ∧ 0 ≤ s ∧ s ≤ 3 ∧ 0 ≤ t ∧ t ≤ 3 ∧ -262144 ≤ d ∧ d ≤ 262143 then 0 else 1

set_option maxHeartbeats 400000 in
theorem wordCheck (l s t d : Int) (w : World) : Calls Try.prog 38 #[.agg #[.int .i64 l, .int .i64 s, .int .i64 t, .int .i64 d]] w fun e w' =>
    e = .returned (errV (pread l s t d)) ∧ w.alloc (.cells #[.int .i64 l, .int .i64 s, .int .i64 t, .int .i64 d] 27) = w' := by
  have hE : Hid (pread l s t d = if 0 ≤ l ∧ l ≤ 255 ∧ 0 ≤ s ∧ s ≤ 3 ∧ 0 ≤ t ∧ t ≤ 3 ∧ -262144 ≤ d ∧ d ≤ 262143 then 0 else 1) := rfl
  generalize pread l s t d = r at *
  go_enter Try.func38, Try.ntmps38
  go_wp2
  all_goals go_ret
  all_goals refine ⟨?_, rfl⟩
  all_goals rw [hE.out]
  all_goals first | (rw [if_neg (by omega)]; rfl) | (rw [if_pos (by omega)]; rfl)

theorem ret_tu {a b : Int} {v : Value} (h : a = b) : Ending.returned (.tuple #[.int .u32 a, v]) = .returned (.tuple #[.int .u32 b, v]) := by rw [h]
theorem or_add (a b i : Nat) (h : a < 2 ^ i) : a ||| (2 ^ i * b) = a + 2 ^ i * b := by
  rw [Nat.or_comm, ← Nat.two_pow_add_eq_or_of_lt h]; omega
theorem pack_sum (T s t : Nat) (d : Int) (hT : T < 256) (h2 : s < 4) (h3 : t < 4) (h4 : -262144 ≤ d) (h5 : d ≤ 262143) :
    bits .or .u32 (bits .or .u32 (bits .or .u32 (T : Int) (IntKind.u32.wrap (IntKind.u32.wrap (s : Int) * 256))) (IntKind.u32.wrap (bits .and .u32 (IntKind.u32.wrap d) 524287 * 1024))) (IntKind.u32.wrap (IntKind.u32.wrap (t : Int) * 536870912)) = ((T + s * 256 + bits19 d * 1024 + t * 536870912 : Nat) : Int) := by
  have e1 : IntKind.u32.wrap (IntKind.u32.wrap (s : Int) * 256) = ((2 ^ 8 * s : Nat) : Int) := by simp only [IntKind.wrap_u32]; omega
  have e2 : IntKind.u32.wrap (IntKind.u32.wrap (t : Int) * 536870912) = ((2 ^ 29 * t : Nat) : Int) := by simp only [IntKind.wrap_u32]; omega
  have e3 : IntKind.u32.wrap d = (((d % 4294967296).toNat : Nat) : Int) := by rw [IntKind.wrap_u32]; omega
  have e4 : bits .and .u32 (IntKind.u32.wrap d) 524287 = ((bits19 d : Nat) : Int) := by
    rw [e3, show (524287 : Int) = ((2 ^ 19 - 1 : Nat) : Int) by rfl, u32_mask _ 19 (by omega) (by omega)]
    unfold bits19
    omega
  have hb := bits19_lt d
  have e5 : IntKind.u32.wrap (bits .and .u32 (IntKind.u32.wrap d) 524287 * 1024) = ((2 ^ 10 * bits19 d : Nat) : Int) := by rw [e4, IntKind.wrap_u32]; omega
  rw [e1, e2, e5, u32_or _ _ (by omega) (by omega), or_add T s 8 (by omega), u32_or _ _ (by omega) (by omega), or_add _ _ 10 (by omega), u32_or _ _ (by omega) (by omega), or_add _ _ 29 (by omega)]
  omega
set_option maxHeartbeats 400000 in
theorem wordPack_ok (l s t : Nat) (d : Int) (T V Q : Nat) (o : Bool) (w : World) (h1 : l < 256) (h2 : s < 4) (h3 : t < 4) (h4 : -262144 ≤ d) (h5 : d ≤ 262143) (hT : Unit → turn8 l = T) (hT2 : T < 256)
    (hV : Unit → T + s * 256 + bits19 d * 1024 + t * 536870912 = V) (hV2 : V < 2147483648) (ho : Unit → podd V = o) (hQ : Unit → (if o then V else add31 V) = Q) : Calls Try.prog 37 #[.agg #[.int .i64 l, .int .i64 s, .int .i64 t, .int .i64 d]] w fun e w' =>
    e = .returned (.tuple #[.int .u32 Q, errV 0]) ∧ Below w.heap.size w w' := by
  have h0 : (pread l s t d != 0) = false := by unfold pread; rw [if_pos (by omega)]; rfl
  have hp : errV (pread l s t d) = .nilIface := by unfold pread; rw [if_pos (by omega)]; rfl
  have hps := fun u => (pack_sum T s t d hT2 h2 h3 h4 h5).trans (by rw [hV u])
  have hbit : 2 ^ 31 ≤ 2147483648 := by omega
  have g31 := or_add V 1 31 (by omega)
  have hOr : Unit → bits .or .u32 (V : Int) 2147483648 = ((add31 V : Nat) : Int) := fun _ => by
    rw [show (2147483648 : Int) = ((2 ^ 31 * 1 : Nat) : Int) by rfl, u32_or _ _ (by omega) (by omega), g31]; rfl
  clear g31 hbit
  go_enter Try.func37, Try.ntmps37
  go_wp2_with (go_at_call 38; ((with_reducible refine (wordCheck _ _ _ _ _).mono ?_); rintro e w' ⟨rfl, rfl⟩))
  have f1 : IntKind.u32.wrap (l : Int) = l := by rw [IntKind.wrap_u32]; omega
  go_region_held3 (fun ω => ω.cell? ⟨w.heap.size, 0, none⟩ = some (.int .i64 l) ∧ ω.cell? ⟨w.heap.size, 1, none⟩ = some (.int .i64 s) ∧ ω.cell? ⟨w.heap.size, 2, none⟩ = some (.int .i64 t) ∧ ω.cell? ⟨w.heap.size, 3, none⟩ = some (.int .i64 d)) (first | (refine ⟨?_, ?_, ?_, ?_⟩ <;> (repeat' (first | (with_reducible assumption) | (with_reducible refine cell_alloc_keep ?_) | (with_reducible refine cell_drew_keep ?_) | (with_reducible refine cell_drewN_keep ?_) | (with_reducible refine cell_set_keep ?_ ?_) | (with_reducible refine cell_below (by assumption) ?_ ?_) | omega | (simp; done) | (simp; omega))) <;> done) | go_keep) (first | (go_at_call 128; ((with_reducible refine (wordTurned_is _ _ _ (by omega) hT).mono ?_); rintro e w' ⟨rfl, rfl⟩)))
  rw [hps ()]
  clear hps f1
  cases o
  · go_wp2_with (go_at_call 127; ((with_reducible refine (wordOdd_is _ _ _ (by omega) ho).mono ?_); rintro e w' ⟨rfl, rfl⟩))
    go_ret2
    exact ⟨ret_tu ((hOr ()).trans (by rw [← hQ ()]; rfl)), by (repeat' (first | (with_reducible exact Below.refl _ _) | (with_reducible assumption) | (with_reducible refine Below.alloc ?_ ?_ _) | (with_reducible refine Below.drew ?_) | (with_reducible refine below_drewN ?_ _) | (with_reducible refine Below.setCell ?_ ?_ _) | (with_reducible refine Below.trans ?_ (Below.mono (by assumption) ?_)) | omega | (simp; omega) | (simp; done)))⟩
  · go_wp2_with (go_at_call 127; ((with_reducible refine (wordOdd_is _ _ _ (by omega) ho).mono ?_); rintro e w' ⟨rfl, rfl⟩))
    go_ret2
    exact ⟨ret_tu (by rw [← hQ ()]; rfl), by (repeat' (first | (with_reducible exact Below.refl _ _) | (with_reducible assumption) | (with_reducible refine Below.alloc ?_ ?_ _) | (with_reducible refine Below.drew ?_) | (with_reducible refine below_drewN ?_ _) | (with_reducible refine Below.setCell ?_ ?_ _) | (with_reducible refine Below.trans ?_ (Below.mono (by assumption) ?_)) | omega | (simp; omega) | (simp; done)))⟩

theorem pword_if (T s t D : Nat) (V : Nat) (h : T + s * 256 + D * 1024 + t * 536870912 = V) : (if podd V then V else add31 V) = pword T s t D := by
  unfold pword; rw [h]
theorem wordPack (l s t : Nat) (d : Int) (w : World) (h1 : l < 256) (h2 : s < 4) (h3 : t < 4) (h4 : -262144 ≤ d) (h5 : d ≤ 262143) : Calls Try.prog 37 #[.agg #[.int .i64 l, .int .i64 s, .int .i64 t, .int .i64 d]] w fun e w' =>
    e = .returned (.tuple #[.int .u32 (pword (turn8 l) s t (bits19 d) : Nat), errV 0]) ∧ Below w.heap.size w w' := by
  have hT := turn8_lt l
  have hb := bits19_lt d
  exact wordPack_ok l s t d (turn8 l) _ _ _ w h1 h2 h3 h4 h5 (fun _ => rfl) hT (fun _ => rfl) (by omega) (fun _ => rfl) (fun _ => pword_if _ _ _ _ _ rfl)
end Go.Proofs.Ytdfpenjhpemokaa
