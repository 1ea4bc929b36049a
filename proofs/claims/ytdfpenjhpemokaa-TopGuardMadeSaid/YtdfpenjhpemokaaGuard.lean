/-
  fix.In; the guard's brake, Check, Brake; the reference's Brake and GuardMay.
-/
import Derived.Test.YtdfpenjhpemokaaGuardPl
import Derived.Test.YtdfpenjhpemokaaErr2
import Derived.Deep.QuietTactic
import Derived.BigQuiet
set_option linter.unusedVariables false
set_option linter.unusedSimpArgs false
namespace Go.Proofs.Ytdfpenjhpemokaa
open Go.RowKit

theorem bcell {W w1 : World} (hb : Below W.heap.size W w1) : (∀ b o, b < W.heap.size → w1.cell? ⟨b, o, none⟩ = W.cell? ⟨b, o, none⟩) ∧ (∀ b o, b < W.heap.size → w1.frozen? ⟨b, o, none⟩ = W.frozen? ⟨b, o, none⟩) :=
  ⟨fun b o h => hb.cell (p := ⟨b, o, none⟩) h, fun b o h => hb.frozen (p := ⟨b, o, none⟩) h⟩

theorem fixIn (x lo hi : Int) (w : World) : Calls Try.prog 46 #[.int .i64 x, .agg #[.int .i64 lo, .int .i64 hi]] w fun e w' => e = .returned (.bool (decide (lo ≤ x) && decide (x ≤ hi))) ∧ w.alloc (.cells #[.int .i64 lo, .int .i64 hi] 41) = w' := by
  by_cases h : lo ≤ x
  · go_enter Try.func46, Try.ntmps46
    go_wp2
    go_ret
    exact ⟨ret_bool (by simp [h]), rfl⟩
  · go_enter Try.func46, Try.ntmps46
    go_wp2
    go_ret
    exact ⟨ret_bool (by rw [decide_eq_false (by omega : ¬ lo ≤ x)]; rfl), rfl⟩

theorem guardbrake (lo hi noise push most rate s : Int) (w : World) (hr : 1 ≤ rate) (hr2 : rate ≤ 4000) (h0 : -10000 ≤ s) (h1 : s + push ≤ 6000) (hp : 0 ≤ push) (hp2 : push ≤ 2000) :
    Calls Try.prog 171 #[.agg #[.int .i64 lo, .int .i64 hi, .int .i64 noise, .int .i64 push, .int .i64 most, .int .i64 rate], .int .i64 s] w fun e w' =>
      e = .returned (.int .i64 (pbrake push rate s)) ∧ w.alloc (.cells #[.int .i64 lo, .int .i64 hi, .int .i64 noise, .int .i64 push, .int .i64 most, .int .i64 rate] 71) = w' := by
  by_cases hs : s + push ≤ 0
  · have hE : Hid (pbrake push rate s = 0) := pbrake_zero hs
    go_enter Try.func171, Try.ntmps171
    go_wp2
    go_ret
    exact ⟨ret_int hE.out.symm, rfl⟩
  · have hb := pbrake_parts hr hr2 (by omega : 0 < s + push) h1
    obtain ⟨b1, b2, b3, b4, b5, b6, b7, b8⟩ := hb
    have hE : Hid (pbrake push rate s = ((s + push) / rate + 1) * (s + push) - rate * ((s + push) / rate) * ((s + push) / rate + 1) / 2) := if_neg hs
    generalize pbrake push rate s = r at *
    go_enter Try.func171, Try.ntmps171
    go_wp2
    go_ret
    exact ⟨ret_int hE.out.symm, rfl⟩

theorem refBrake (lo hi noise push most rate s : Int) (w : World) (hr : 1 ≤ rate) (hr2 : rate ≤ 4000) (h0 : -10000 ≤ s) (h1 : s + push ≤ 6000) (hp : 0 ≤ push) (hp2 : push ≤ 2000) :
    Calls Try.prog 134 #[.agg #[.int .i64 lo, .int .i64 hi, .int .i64 noise, .int .i64 push, .int .i64 most, .int .i64 rate], .int .i64 s] w fun e w' =>
      e = .returned (.int .i64 (pbrake push rate s)) ∧ w.alloc (.cells #[.int .i64 lo, .int .i64 hi, .int .i64 noise, .int .i64 push, .int .i64 most, .int .i64 rate] 71) = w' := by
  go_enter Try.func134, Try.ntmps134
  go_wp2
  go_loop [1, 5] (fun t n => ∃ x y : Int, t = .int .i64 x ∧ n = .int .i64 y ∧ -10000 ≤ x ∧ x + push ≤ 6000 ∧ 0 ≤ y ∧ y + pbrake push rate x ≤ 36006000 ∧ Hid (y + pbrake push rate x = pbrake push rate s)) (fun t _ => (intOf t + push).toNat)
  case atStart => exact ⟨s, 0, rfl, rfl, h0, h1, by omega, by have := pbrake_le hr hr2 h1; omega, Int.zero_add _⟩
  case round =>
    obtain ⟨x, y, rfl, rfl, g1, g2, g3, g4, g5⟩ := hrel
    have hn := pbrake_nonneg hr x (push := push)
    by_cases hx : 0 < x + push
    · have hst := pbrake_step hr hx
      have hn2 := pbrake_nonneg hr (x - rate) (push := push)
      have g6 : y + x + push + pbrake push rate (x - rate) ≤ 36006000 := by omega
      have g7 : Hid (y + x + push + pbrake push rate (x - rate) = pbrake push rate s) := by have := g5.out; unfold Hid; omega
      clear hst g5 g4 hn
      go_wp2
      go_round
      case rel => exact ⟨_, _, rfl, rfl, by omega, by omega, by omega, g6, g7⟩
      case measure => simp [intOf]; omega
    · have hz : Hid (y = pbrake push rate s) := by have := g5.out; rw [pbrake_zero (by omega : x + push ≤ 0)] at this; unfold Hid; omega
      clear g5 g4 hn
      go_wp2
      go_ret
      exact ⟨ret_int hz.out, rfl⟩
end Go.Proofs.Ytdfpenjhpemokaa
