/-
  fcc.checkAxis and R.AxisMay: what they answer.
-/
import Derived.Test.YtdfpenjhpemokaaAxisRun
set_option linter.unusedVariables false
set_option linter.unusedSimpArgs false
namespace Go.Proofs.Ytdfpenjhpemokaa.Sx
open Go.RowKit
theorem cA_pl {F10 : Int → Int → Int → Int → Int → Int → Int} {F66 : Int → Int → Int → Int → Int → Int → Int → Int} {x20 x21 x22 x23 x24 x25 x26 x27 x28 x29 x30 x31 x32 y1 y3 y4 y5 y6 y7 : Int} {q2 : Bool} 
    (h0 : y1 = (if ((((decide (x28 < (0 : Int))) || (decide ((1000000 : Int) < x28))) || (decide (x29 < (1 : Int)))) || (decide ((10 : Int) < x29))) = true then (1 : Int) else (0 : Int)))
    (h1 : q2 = (((((((decide (x25 < (1 : Int))) || (decide ((1000 : Int) < x25))) || (decide (x26 < (1 : Int)))) || (decide (x25 < x26))) || (decide (x27 < (0 : Int)))) || (decide (x25 < x27))) || (decide (x30 < (1 : Int)))))
    (h2 : y3 = (F10 x20 x21 x22 (IntKind.wrap .i64 (x23 + x27)) (IntKind.wrap .i64 ((x24 - (1 : Int)) * x25)) (IntKind.wrap .i64 ((x24 - (1 : Int)) * x26))))
    (h3 : y4 = (F66 x20 x21 x31 x32 (IntKind.wrap .i64 ((x24 - (1 : Int)) * x25)) (0 : Int) (1 : Int)))
    (h4 : y5 = (if (((decide (x28 < (IntKind.wrap .i64 ((2 : Int) * x22)))) || (decide ((0 : Int) < x20))) || (decide (x21 < (0 : Int)))) = true then (3 : Int) else (0 : Int)))
    (h5 : y6 = (if (!(decide (y1 = (0 : Int)))) = true then y1 else (if (!(decide ((if (q2 || (decide ((10 : Int) < x30))) = true then (1 : Int) else (0 : Int)) = (0 : Int)))) = true then (if (q2 || (decide ((10 : Int) < x30))) = true then (1 : Int) else (0 : Int)) else (if (!(decide (y3 = (0 : Int)))) = true then y3 else (if (!(decide (y4 = (0 : Int)))) = true then y4 else y5)))))
    (h6 : y7 = (if ((((decide (x24 < (2 : Int))) || (decide ((4 : Int) < x24))) || (decide (x23 < (0 : Int)))) || (decide ((1000 : Int) < x23))) = true then (1 : Int) else y6))
    : y7 = paxisG F10 (fun a b c d e => F66 a b c d e 0 1) x20 x21 x22 x23 x24 x25 x26 x27 x28 x29 x30 x31 x32 := by
  have e1 : ((((decide (x24 < (2 : Int))) || (decide ((4 : Int) < x24))) || (decide (x23 < (0 : Int)))) || (decide ((1000 : Int) < x23))) = !decide (2 ≤ x24 ∧ x24 ≤ 4 ∧ 0 ≤ x23 ∧ x23 ≤ 1000) := by
    rw [Bool.eq_iff_iff]; simp only [Bool.or_eq_true, Bool.and_eq_true, Bool.not_eq_true', Bool.and_eq_false_imp, decide_eq_true_eq, decide_eq_false_iff_not]; omega
  have e2 : ((((decide (x28 < (0 : Int))) || (decide ((1000000 : Int) < x28))) || (decide (x29 < (1 : Int)))) || (decide ((10 : Int) < x29))) = !decide (0 ≤ x28 ∧ x28 ≤ 1000000 ∧ 1 ≤ x29 ∧ x29 ≤ 10) := by
    rw [Bool.eq_iff_iff]; simp only [Bool.or_eq_true, Bool.and_eq_true, Bool.not_eq_true', Bool.and_eq_false_imp, decide_eq_true_eq, decide_eq_false_iff_not]; omega
  have e3 : (q2 || (decide ((10 : Int) < x30))) = !decide (1 ≤ x25 ∧ x25 ≤ 1000 ∧ 1 ≤ x26 ∧ x26 ≤ x25 ∧ 0 ≤ x27 ∧ x27 ≤ x25 ∧ 1 ≤ x30 ∧ x30 ≤ 10) := by
    rw [h1]; rw [Bool.eq_iff_iff]; simp only [Bool.or_eq_true, Bool.and_eq_true, Bool.not_eq_true', Bool.and_eq_false_imp, decide_eq_true_eq, decide_eq_false_iff_not]; omega
  rw [e1] at h6
  rw [e2] at h0
  rw [e3] at h5
  clear e1 e2 e3 h1
  unfold paxisG
  by_cases c1 : 2 ≤ x24 ∧ x24 ≤ 4 ∧ 0 ≤ x23 ∧ x23 ≤ 1000
  · rw [if_pos c1, h6, h5, h0, decide_eq_true c1]
    by_cases c2 : 0 ≤ x28 ∧ x28 ≤ 1000000 ∧ 1 ≤ x29 ∧ x29 ≤ 10
    · rw [if_pos c2, decide_eq_true c2]
      by_cases c3 : 1 ≤ x25 ∧ x25 ≤ 1000 ∧ 1 ≤ x26 ∧ x26 ≤ x25 ∧ 0 ≤ x27 ∧ x27 ≤ x25 ∧ 1 ≤ x30 ∧ x30 ≤ 10
      · rw [if_pos c3, decide_eq_true c3, h4, h2, h3]
        have m1 := mulAB (a := x24 - 1) (b := x25) (A := 3) (B := 1000) (by omega) (by omega) (by omega) (by omega)
        have m2 := mulAB (a := x24 - 1) (b := x26) (A := 3) (B := 1000) (by omega) (by omega) (by omega) (by omega)
        rw [w64 _ (by omega) (by omega)] 
        rw [w64 ((x24 - 1) * x25) (by omega) (by omega), w64 ((x24 - 1) * x26) (by omega) (by omega)]
        simp only [Bool.not_true, Bool.false_eq_true, if_false, decide_true, Bool.not_eq_true', decide_eq_false_iff_not, Bool.or_eq_true, decide_eq_true_eq, ite_not, or_assoc]
      · rw [if_neg c3, decide_eq_false c3]; rfl
    · rw [if_neg c2, decide_eq_false c2]; rfl
  · rw [if_neg c1, h6, decide_eq_false c1]; rfl
theorem rA_pl {F10 : Int → Int → Int → Int → Int → Int → Int} {F66 : Int → Int → Int → Int → Int → Int → Int → Int} {x20 x21 x22 x23 x24 x25 x26 x27 x28 x29 x30 x31 x32 y1 y2 y4 y5 y6 y7 y8 y9 y10 y11 : Int} {q3 : Bool} 
    (h0 : y1 = (if ((!((decide ((2 : Int) ≤ x24)) && (decide (x24 ≤ (4 : Int))))) || (!((decide ((0 : Int) ≤ x23)) && (decide (x23 ≤ (1000 : Int)))))) = true then (1 : Int) else (0 : Int)))
    (h1 : y2 = (if ((!((decide ((0 : Int) ≤ x28)) && (decide (x28 ≤ (1000000 : Int))))) || (!((decide ((1 : Int) ≤ x29)) && (decide (x29 ≤ (10 : Int)))))) = true then (1 : Int) else (0 : Int)))
    (h2 : q3 = (((((decide ((1 : Int) ≤ x25)) && (decide (x25 ≤ (1000 : Int)))) && ((decide ((1 : Int) ≤ x26)) && (decide (x26 ≤ x25)))) && ((decide ((0 : Int) ≤ x27)) && (decide (x27 ≤ x25)))) && ((decide ((1 : Int) ≤ x30)) && (decide (x30 ≤ (10 : Int))))))
    (h3 : y4 = (if (!(decide (y2 = (0 : Int)))) = true then y2 else (if (!(decide ((if (!q3) = true then (1 : Int) else (0 : Int)) = (0 : Int)))) = true then (if (!q3) = true then (1 : Int) else (0 : Int)) else (0 : Int))))
    (h4 : y5 = (if (!(decide (y2 = (0 : Int)))) = true then (if (!q3) = true then (1 : Int) else (0 : Int)) else (if (!(decide ((if (!q3) = true then (1 : Int) else (0 : Int)) = (0 : Int)))) = true then (if (!q3) = true then (1 : Int) else (0 : Int)) else (0 : Int))))
    (h5 : y6 = (if (((decide (x28 < (IntKind.wrap .i64 ((2 : Int) * x22)))) || (decide ((0 : Int) < x20))) || (decide (x21 < (0 : Int)))) = true then (3 : Int) else (0 : Int)))
    (h6 : y7 = (F10 x20 x21 x22 (IntKind.wrap .i64 (x23 + x27)) (IntKind.wrap .i64 ((IntKind.wrap .i64 (x24 - (1 : Int))) * x25)) (IntKind.wrap .i64 ((IntKind.wrap .i64 (x24 - (1 : Int))) * x26))))
    (h7 : y8 = (F66 x20 x21 x31 x32 (IntKind.wrap .i64 ((IntKind.wrap .i64 (x24 - (1 : Int))) * x25)) (0 : Int) (1 : Int)))
    (h8 : y9 = (if (!(decide (y7 = (0 : Int)))) = true then y7 else (if (!(decide (y8 = (0 : Int)))) = true then y8 else (if (!(decide (y6 = (0 : Int)))) = true then y6 else (0 : Int)))))
    (h9 : y10 = (if (!(decide (y7 = (0 : Int)))) = true then y6 else (if (!(decide (y8 = (0 : Int)))) = true then y6 else (if (!(decide (y6 = (0 : Int)))) = true then y6 else (0 : Int)))))
    (h10 : y11 = (if (!(decide (y1 = (0 : Int)))) = true then y1 else (if (!(decide (y4 = (0 : Int)))) = true then y4 else y9)))
    : y11 = paxisG F10 (fun a b c d e => F66 a b c d e 0 1) x20 x21 x22 x23 x24 x25 x26 x27 x28 x29 x30 x31 x32 := by
  have e1 : ((!((decide ((2 : Int) ≤ x24)) && (decide (x24 ≤ (4 : Int))))) || (!((decide ((0 : Int) ≤ x23)) && (decide (x23 ≤ (1000 : Int)))))) = !decide (2 ≤ x24 ∧ x24 ≤ 4 ∧ 0 ≤ x23 ∧ x23 ≤ 1000) := by
    rw [Bool.eq_iff_iff]; simp only [Bool.or_eq_true, Bool.and_eq_true, Bool.not_eq_true', Bool.and_eq_false_imp, decide_eq_true_eq, decide_eq_false_iff_not]; omega
  have e2 : ((!((decide ((0 : Int) ≤ x28)) && (decide (x28 ≤ (1000000 : Int))))) || (!((decide ((1 : Int) ≤ x29)) && (decide (x29 ≤ (10 : Int)))))) = !decide (0 ≤ x28 ∧ x28 ≤ 1000000 ∧ 1 ≤ x29 ∧ x29 ≤ 10) := by
    rw [Bool.eq_iff_iff]; simp only [Bool.or_eq_true, Bool.and_eq_true, Bool.not_eq_true', Bool.and_eq_false_imp, decide_eq_true_eq, decide_eq_false_iff_not]; omega
  have e3 : q3 = decide (1 ≤ x25 ∧ x25 ≤ 1000 ∧ 1 ≤ x26 ∧ x26 ≤ x25 ∧ 0 ≤ x27 ∧ x27 ≤ x25 ∧ 1 ≤ x30 ∧ x30 ≤ 10) := by
    rw [h2]; rw [Bool.eq_iff_iff]; simp only [Bool.or_eq_true, Bool.and_eq_true, Bool.not_eq_true', Bool.and_eq_false_imp, decide_eq_true_eq, decide_eq_false_iff_not]; omega
  rw [e1] at h0
  rw [e2] at h1
  rw [e3] at h3
  clear e1 e2 e3 h2 h4 h9
  unfold paxisG
  by_cases c1 : 2 ≤ x24 ∧ x24 ≤ 4 ∧ 0 ≤ x23 ∧ x23 ≤ 1000
  · rw [if_pos c1, h10, h0, h3, h1, decide_eq_true c1]
    by_cases c2 : 0 ≤ x28 ∧ x28 ≤ 1000000 ∧ 1 ≤ x29 ∧ x29 ≤ 10
    · rw [if_pos c2, decide_eq_true c2]
      by_cases c3 : 1 ≤ x25 ∧ x25 ≤ 1000 ∧ 1 ≤ x26 ∧ x26 ≤ x25 ∧ 0 ≤ x27 ∧ x27 ≤ x25 ∧ 1 ≤ x30 ∧ x30 ≤ 10
      · rw [if_pos c3, decide_eq_true c3, h8, h5, h6, h7]
        have m1 := mulAB (a := x24 - 1) (b := x25) (A := 3) (B := 1000) (by omega) (by omega) (by omega) (by omega)
        have m2 := mulAB (a := x24 - 1) (b := x26) (A := 3) (B := 1000) (by omega) (by omega) (by omega) (by omega)
        rw [w64 (x24 - 1) (by omega) (by omega), w64 (x23 + x27) (by omega) (by omega)] 
        rw [w64 ((x24 - 1) * x25) (by omega) (by omega), w64 ((x24 - 1) * x26) (by omega) (by omega)]
        simp only [Bool.not_true, Bool.false_eq_true, if_false, if_true, decide_true, Bool.not_eq_true', decide_eq_false_iff_not, Bool.or_eq_true, decide_eq_true_eq, ite_not, or_assoc]
        split
        · split
          · split <;> simp_all
          · rfl
        · rfl
      · rw [if_neg c3, decide_eq_false c3]; rfl
    · rw [if_neg c2, decide_eq_false c2]; rfl
  · rw [if_neg c1, h10, h0, decide_eq_false c1]; rfl
set_option maxRecDepth 100000 in
set_option maxHeartbeats 1000000 in
theorem checkAxis (g d : GD) (hk : g.ks = [true]) (hk' : d.ks = [true]) (hn : g.n ≤ 1000) (hn' : d.n ≤ 1000) (lo hi noise push surf travel rate slack limit confirm watch turn build : Int) (b20 : B64 lo) (b21 : B64 hi) (b22 : B64 noise) (b23 : B64 push) (b24 : B64 surf) (b25 : B64 travel) (b26 : B64 rate) (b27 : B64 slack) (b28 : B64 limit) (b29 : B64 confirm) (b30 : B64 watch) (b31 : B64 turn) (b32 : B64 build) (w : World) (o : g.ok w) (o' : d.ok w) :
    Calls Try.prog 163 #[.agg #[.int .i64 lo, .int .i64 hi, .int .i64 noise, .int .i64 push, .int .i64 surf, .int .i64 travel, .int .i64 rate, .int .i64 slack, .int .i64 limit, .int .i64 confirm, .int .i64 watch, .int .i64 turn, .slice g.A g.n g.c, .slice d.A d.n d.c, .int .i64 build]] w fun e w' => e = .returned (errV (paxis (pline g.f g.n d.f d.n) (pgain d.f d.n) lo hi noise push surf travel rate slack limit confirm watch turn build)) ∧ Below w.heap.size w w' := by
  obtain ⟨ρ0, h0, hm, s1, s2, s3, s4⟩ := ax_start o o' hk hk' hn hn' (fun n => match n with | 4 => (g.n : Int) | 6 => (d.n : Int) | 20 => lo | 21 => hi | 22 => noise | 23 => push | 24 => surf | 25 => travel | 26 => rate | 27 => slack | 28 => limit | 29 => confirm | 30 => watch | 31 => turn | 32 => build | _ => 0) rfl rfl ⟨fun _ => 0, fun _ => 0, fun _ => 0⟩
  have e20 : ρ0.iv 20 = lo := h0.at_ 20 rfl
  have e21 : ρ0.iv 21 = hi := h0.at_ 21 rfl
  have e22 : ρ0.iv 22 = noise := h0.at_ 22 rfl
  have e23 : ρ0.iv 23 = push := h0.at_ 23 rfl
  have e24 : ρ0.iv 24 = surf := h0.at_ 24 rfl
  have e25 : ρ0.iv 25 = travel := h0.at_ 25 rfl
  have e26 : ρ0.iv 26 = rate := h0.at_ 26 rfl
  have e27 : ρ0.iv 27 = slack := h0.at_ 27 rfl
  have e28 : ρ0.iv 28 = limit := h0.at_ 28 rfl
  have e29 : ρ0.iv 29 = confirm := h0.at_ 29 rfl
  have e30 : ρ0.iv 30 = watch := h0.at_ 30 rfl
  have e31 : ρ0.iv 31 = turn := h0.at_ 31 rfl
  have e32 : ρ0.iv 32 = build := h0.at_ 32 rfl
  have key := piece_ret (P := Try.prog) (cfg := cfgK cASum cAKeeps 50 12) Try.func163 rfl (args := cAArgs) (H := []) (nx := 0) cA_ran0 cA_defs0 cA_no0 (V := errV (paxis (pline g.f g.n d.f d.n) (pgain d.f d.n) lo hi noise push surf travel rate slack limit confirm watch turn build)) (AxJ g d (fun n => match n with | 4 => (g.n : Int) | 6 => (d.n : Int) | 20 => lo | 21 => hi | 22 => noise | 23 => push | 24 => surf | 25 => travel | 26 => rate | 27 => slack | 28 => limit | 29 => confirm | 30 => watch | 31 => turn | 32 => build | _ => 0))
    (fun ρ h => ⟨h.std.et, cA_sum h.std (ltwo_ok o o') (ltwo_ks hk hk')⟩) (fun ρ ρ' h hs => h.same hs) (by kernel_rfl)
    (fun ρ h => by
      have h1 := h.l4
      have h2 := h.l6
      have h3 := h.s4
      have h4 := h.s6
      have e20 : ρ.iv 20 = lo := h.at_ 20 rfl
      have e21 : ρ.iv 21 = hi := h.at_ 21 rfl
      have e22 : ρ.iv 22 = noise := h.at_ 22 rfl
      have e23 : ρ.iv 23 = push := h.at_ 23 rfl
      have e24 : ρ.iv 24 = surf := h.at_ 24 rfl
      have e25 : ρ.iv 25 = travel := h.at_ 25 rfl
      have e26 : ρ.iv 26 = rate := h.at_ 26 rfl
      have e27 : ρ.iv 27 = slack := h.at_ 27 rfl
      have e28 : ρ.iv 28 = limit := h.at_ 28 rfl
      have e29 : ρ.iv 29 = confirm := h.at_ 29 rfl
      have e30 : ρ.iv 30 = watch := h.at_ 30 rfl
      have e31 : ρ.iv 31 = turn := h.at_ 31 rfl
      have e32 : ρ.iv 32 = build := h.at_ 32 rfl
      unfold B64 at b20 b21 b22 b23 b24 b25 b26 b27 b28 b29 b30 b31 b32
      refine List.forall_mem_cons.2 ⟨?_, List.forall_mem_cons.2 ⟨?_, List.forall_mem_cons.2 ⟨?_, List.forall_mem_cons.2 ⟨?_, List.forall_mem_cons.2 ⟨?_, List.forall_mem_cons.2 ⟨?_, List.forall_mem_cons.2 ⟨?_, List.forall_mem_cons.2 ⟨?_, List.forall_mem_cons.2 ⟨?_, List.forall_mem_cons.2 ⟨?_, List.forall_mem_cons.2 ⟨?_, List.forall_mem_cons.2 ⟨?_, List.forall_mem_cons.2 ⟨?_, List.forall_mem_cons.2 ⟨?_, List.forall_mem_cons.2 ⟨?_, fun _ h => nomatch h⟩⟩⟩⟩⟩⟩⟩⟩⟩⟩⟩⟩⟩⟩⟩
      · exact fit_of (z := ρ.iv 20) rfl (by show (-9223372036854775808 : Int) ≤ ρ.iv 20; omega) (by show ρ.iv 20 ≤ 9223372036854775807; omega)
      · exact fit_of (z := ρ.iv 21) rfl (by show (-9223372036854775808 : Int) ≤ ρ.iv 21; omega) (by show ρ.iv 21 ≤ 9223372036854775807; omega)
      · exact fit_of (z := ρ.iv 22) rfl (by show (-9223372036854775808 : Int) ≤ ρ.iv 22; omega) (by show ρ.iv 22 ≤ 9223372036854775807; omega)
      · exact fit_of (z := ρ.iv 23) rfl (by show (-9223372036854775808 : Int) ≤ ρ.iv 23; omega) (by show ρ.iv 23 ≤ 9223372036854775807; omega)
      · exact fit_of (z := ρ.iv 24) rfl (by show (-9223372036854775808 : Int) ≤ ρ.iv 24; omega) (by show ρ.iv 24 ≤ 9223372036854775807; omega)
      · exact fit_of (z := ρ.iv 25) rfl (by show (-9223372036854775808 : Int) ≤ ρ.iv 25; omega) (by show ρ.iv 25 ≤ 9223372036854775807; omega)
      · exact fit_of (z := ρ.iv 26) rfl (by show (-9223372036854775808 : Int) ≤ ρ.iv 26; omega) (by show ρ.iv 26 ≤ 9223372036854775807; omega)
      · exact fit_of (z := ρ.iv 27) rfl (by show (-9223372036854775808 : Int) ≤ ρ.iv 27; omega) (by show ρ.iv 27 ≤ 9223372036854775807; omega)
      · exact fit_of (z := ρ.iv 28) rfl (by show (-9223372036854775808 : Int) ≤ ρ.iv 28; omega) (by show ρ.iv 28 ≤ 9223372036854775807; omega)
      · exact fit_of (z := ρ.iv 29) rfl (by show (-9223372036854775808 : Int) ≤ ρ.iv 29; omega) (by show ρ.iv 29 ≤ 9223372036854775807; omega)
      · exact fit_of (z := ρ.iv 30) rfl (by show (-9223372036854775808 : Int) ≤ ρ.iv 30; omega) (by show ρ.iv 30 ≤ 9223372036854775807; omega)
      · exact fit_of (z := ρ.iv 31) rfl (by show (-9223372036854775808 : Int) ≤ ρ.iv 31; omega) (by show ρ.iv 31 ≤ 9223372036854775807; omega)
      · exact fit_of (z := ρ.iv 4) rfl (by show (0 : Int) ≤ ρ.iv 4; omega) (by show ρ.iv 4 ≤ 1000; omega)
      · exact fit_of (z := ρ.iv 6) rfl (by show (0 : Int) ≤ ρ.iv 6; omega) (by show ρ.iv 6 ≤ 1000; omega)
      · exact fit_of (z := ρ.iv 32) rfl (by show (-9223372036854775808 : Int) ≤ ρ.iv 32; omega) (by show ρ.iv 32 ≤ 9223372036854775807; omega))
    (fun ρ h hv => Eq.mpr (cA_w0 ρ) (by
      trivial))
    (by
      refine List.forall_mem_cons.2 ⟨?_, fun _ h => nomatch h⟩
      · intro ρ h hv hp
        obtain ⟨h0, h1, h2, h3, h4, h5, h6, -⟩ := Eq.mp (cA_says0 ρ) hv
        have key := cA_pl (F10 := fun a0 a1 a2 a3 a4 a5 => ρ.fn 10 [a0, a1, a2, a3, a4, a5]) (F66 := fun a0 a1 a2 a3 a4 a5 a6 => ρ.fn 66 [a0, a1, a2, a3, a4, a5, a6]) h0 h1 h2 h3 h4 h5 h6
        have hz : ρ.iv 1653717014909278773 = paxis (pline g.f g.n d.f d.n) (pgain d.f d.n) lo hi noise push surf travel rate slack limit confirm watch turn build := by
          rw [key]
          rw [show ρ.iv 20 = lo from h.at_ 20 rfl]
          rw [show ρ.iv 21 = hi from h.at_ 21 rfl]
          rw [show ρ.iv 22 = noise from h.at_ 22 rfl]
          rw [show ρ.iv 23 = push from h.at_ 23 rfl]
          rw [show ρ.iv 24 = surf from h.at_ 24 rfl]
          rw [show ρ.iv 25 = travel from h.at_ 25 rfl]
          rw [show ρ.iv 26 = rate from h.at_ 26 rfl]
          rw [show ρ.iv 27 = slack from h.at_ 27 rfl]
          rw [show ρ.iv 28 = limit from h.at_ 28 rfl]
          rw [show ρ.iv 29 = confirm from h.at_ 29 rfl]
          rw [show ρ.iv 30 = watch from h.at_ 30 rfl]
          rw [show ρ.iv 31 = turn from h.at_ 31 rfl]
          rw [show ρ.iv 32 = build from h.at_ 32 rfl]
          have f10 : (fun a b c d e f => ρ.fn 10 [a, b, c, d, e, f]) = pguardMay := by
            funext a b c d e f
            rw [h.std.f rfl]; rfl
          have f66 : (fun a b c d e => ρ.fn 66 [a, b, c, d, e, 0, 1]) = fun lo hi tu bu mo => phrule lo hi tu bu mo (pline g.f g.n d.f d.n) (pgain d.f d.n) := by
            funext a b c d' e
            rw [h.std.f rfl]; rfl
          rw [f10, f66]
          rfl
        refine ⟨.inr rfl, List.forall_mem_cons.2 ⟨?_, fun _ h => nomatch h⟩, [.err ⟨(.v 900), 0, 5⟩], by kernel_rfl, fun b => ?_⟩
        · exact fit_of (z := paxis (pline g.f g.n d.f d.n) (pgain d.f d.n) lo hi noise push surf travel rate slack limit confirm watch turn build) hz (paxis_bd (pline_bd _ _ _ _) _ _ _ _ _ _ _ _ _ _ _ _ _).1 (paxis_bd (pline_bd _ _ _ _) _ _ _ _ _ _ _ _ _ _ _ _ _).2
        · show (SV.err _).den _ b = _
          exact (err_mk _ (h.std.sub _).et _ b).trans (congrArg errV hz))
    h0 ⟨fun _ => 0, fun _ => 0, fun _ => 0⟩ w (noHeap _ _ _ _) (by
      unfold cAArgs
      simp only [SV.okL, SV.ok, R.ok, E.i, e20, e21, e22, e23, e24, e25, e26, e27, e28, e29, e30, e31, e32]
      exact ⟨⟨b20, b21, b22, b23, b24, b25, b26, b27, b28, b29, b30, b31, s1, s3, b32, trivial⟩, trivial⟩) hm
  have e : SV.denL ρ0 ⟨fun _ => 0, fun _ => 0, fun _ => 0⟩ cAArgs = [.agg #[.int .i64 lo, .int .i64 hi, .int .i64 noise, .int .i64 push, .int .i64 surf, .int .i64 travel, .int .i64 rate, .int .i64 slack, .int .i64 limit, .int .i64 confirm, .int .i64 watch, .int .i64 turn, .slice g.A g.n g.c, .slice d.A d.n d.c, .int .i64 build]] := by
    unfold cAArgs
    simp only [SV.denL]
    simp only [den_agg, SV.denL, den_int, E.i, e20, e21, e22, e23, e24, e25, e26, e27, e28, e29, e30, e31, e32]
    rw [s2, s4]
  rw [e] at key
  exact key
set_option maxRecDepth 100000 in
set_option maxHeartbeats 1000000 in
theorem refAxis (g d : GD) (hk : g.ks = [true]) (hk' : d.ks = [true]) (hn : g.n ≤ 1000) (hn' : d.n ≤ 1000) (lo hi noise push surf travel rate slack limit confirm watch turn build : Int) (b20 : B64 lo) (b21 : B64 hi) (b22 : B64 noise) (b23 : B64 push) (b24 : B64 surf) (b25 : B64 travel) (b26 : B64 rate) (b27 : B64 slack) (b28 : B64 limit) (b29 : B64 confirm) (b30 : B64 watch) (b31 : B64 turn) (b32 : B64 build) (w : World) (o : g.ok w) (o' : d.ok w) :
    Calls Try.prog 162 #[.agg #[.int .i64 lo, .int .i64 hi, .int .i64 noise, .int .i64 push, .int .i64 surf, .int .i64 travel, .int .i64 rate, .int .i64 slack, .int .i64 limit, .int .i64 confirm, .int .i64 watch, .int .i64 turn, .slice g.A g.n g.c, .slice d.A d.n d.c, .int .i64 build]] w fun e w' => e = .returned (.int .i64 (paxis (pline g.f g.n d.f d.n) (pgain d.f d.n) lo hi noise push surf travel rate slack limit confirm watch turn build)) ∧ Below w.heap.size w w' := by
  obtain ⟨ρ0, h0, hm, s1, s2, s3, s4⟩ := ax_start o o' hk hk' hn hn' (fun n => match n with | 4 => (g.n : Int) | 6 => (d.n : Int) | 20 => lo | 21 => hi | 22 => noise | 23 => push | 24 => surf | 25 => travel | 26 => rate | 27 => slack | 28 => limit | 29 => confirm | 30 => watch | 31 => turn | 32 => build | _ => 0) rfl rfl ⟨fun _ => 0, fun _ => 0, fun _ => 0⟩
  have e20 : ρ0.iv 20 = lo := h0.at_ 20 rfl
  have e21 : ρ0.iv 21 = hi := h0.at_ 21 rfl
  have e22 : ρ0.iv 22 = noise := h0.at_ 22 rfl
  have e23 : ρ0.iv 23 = push := h0.at_ 23 rfl
  have e24 : ρ0.iv 24 = surf := h0.at_ 24 rfl
  have e25 : ρ0.iv 25 = travel := h0.at_ 25 rfl
  have e26 : ρ0.iv 26 = rate := h0.at_ 26 rfl
  have e27 : ρ0.iv 27 = slack := h0.at_ 27 rfl
  have e28 : ρ0.iv 28 = limit := h0.at_ 28 rfl
  have e29 : ρ0.iv 29 = confirm := h0.at_ 29 rfl
  have e30 : ρ0.iv 30 = watch := h0.at_ 30 rfl
  have e31 : ρ0.iv 31 = turn := h0.at_ 31 rfl
  have e32 : ρ0.iv 32 = build := h0.at_ 32 rfl
  have key := piece_ret (P := Try.prog) (cfg := cfgK rASum rAKeeps 50 12) Try.func162 rfl (args := rAArgs) (H := []) (nx := 0) rA_ran0 rA_defs0 rA_no0 (V := .int .i64 (paxis (pline g.f g.n d.f d.n) (pgain d.f d.n) lo hi noise push surf travel rate slack limit confirm watch turn build)) (AxJ g d (fun n => match n with | 4 => (g.n : Int) | 6 => (d.n : Int) | 20 => lo | 21 => hi | 22 => noise | 23 => push | 24 => surf | 25 => travel | 26 => rate | 27 => slack | 28 => limit | 29 => confirm | 30 => watch | 31 => turn | 32 => build | _ => 0))
    (fun ρ h => ⟨h.std.et, rA_sum h.std (ltwo_ok o o') (ltwo_ks hk hk')⟩) (fun ρ ρ' h hs => h.same hs) (by kernel_rfl)
    (fun ρ h => by
      have h1 := h.l4
      have h2 := h.l6
      have h3 := h.s4
      have h4 := h.s6
      have e20 : ρ.iv 20 = lo := h.at_ 20 rfl
      have e21 : ρ.iv 21 = hi := h.at_ 21 rfl
      have e22 : ρ.iv 22 = noise := h.at_ 22 rfl
      have e23 : ρ.iv 23 = push := h.at_ 23 rfl
      have e24 : ρ.iv 24 = surf := h.at_ 24 rfl
      have e25 : ρ.iv 25 = travel := h.at_ 25 rfl
      have e26 : ρ.iv 26 = rate := h.at_ 26 rfl
      have e27 : ρ.iv 27 = slack := h.at_ 27 rfl
      have e28 : ρ.iv 28 = limit := h.at_ 28 rfl
      have e29 : ρ.iv 29 = confirm := h.at_ 29 rfl
      have e30 : ρ.iv 30 = watch := h.at_ 30 rfl
      have e31 : ρ.iv 31 = turn := h.at_ 31 rfl
      have e32 : ρ.iv 32 = build := h.at_ 32 rfl
      unfold B64 at b20 b21 b22 b23 b24 b25 b26 b27 b28 b29 b30 b31 b32
      refine List.forall_mem_cons.2 ⟨?_, List.forall_mem_cons.2 ⟨?_, List.forall_mem_cons.2 ⟨?_, List.forall_mem_cons.2 ⟨?_, List.forall_mem_cons.2 ⟨?_, List.forall_mem_cons.2 ⟨?_, List.forall_mem_cons.2 ⟨?_, List.forall_mem_cons.2 ⟨?_, List.forall_mem_cons.2 ⟨?_, List.forall_mem_cons.2 ⟨?_, List.forall_mem_cons.2 ⟨?_, List.forall_mem_cons.2 ⟨?_, List.forall_mem_cons.2 ⟨?_, List.forall_mem_cons.2 ⟨?_, List.forall_mem_cons.2 ⟨?_, fun _ h => nomatch h⟩⟩⟩⟩⟩⟩⟩⟩⟩⟩⟩⟩⟩⟩⟩
      · exact fit_of (z := ρ.iv 20) rfl (by show (-9223372036854775808 : Int) ≤ ρ.iv 20; omega) (by show ρ.iv 20 ≤ 9223372036854775807; omega)
      · exact fit_of (z := ρ.iv 21) rfl (by show (-9223372036854775808 : Int) ≤ ρ.iv 21; omega) (by show ρ.iv 21 ≤ 9223372036854775807; omega)
      · exact fit_of (z := ρ.iv 22) rfl (by show (-9223372036854775808 : Int) ≤ ρ.iv 22; omega) (by show ρ.iv 22 ≤ 9223372036854775807; omega)
      · exact fit_of (z := ρ.iv 23) rfl (by show (-9223372036854775808 : Int) ≤ ρ.iv 23; omega) (by show ρ.iv 23 ≤ 9223372036854775807; omega)
      · exact fit_of (z := ρ.iv 24) rfl (by show (-9223372036854775808 : Int) ≤ ρ.iv 24; omega) (by show ρ.iv 24 ≤ 9223372036854775807; omega)
      · exact fit_of (z := ρ.iv 25) rfl (by show (-9223372036854775808 : Int) ≤ ρ.iv 25; omega) (by show ρ.iv 25 ≤ 9223372036854775807; omega)
      · exact fit_of (z := ρ.iv 26) rfl (by show (-9223372036854775808 : Int) ≤ ρ.iv 26; omega) (by show ρ.iv 26 ≤ 9223372036854775807; omega)
      · exact fit_of (z := ρ.iv 27) rfl (by show (-9223372036854775808 : Int) ≤ ρ.iv 27; omega) (by show ρ.iv 27 ≤ 9223372036854775807; omega)
      · exact fit_of (z := ρ.iv 28) rfl (by show (-9223372036854775808 : Int) ≤ ρ.iv 28; omega) (by show ρ.iv 28 ≤ 9223372036854775807; omega)
      · exact fit_of (z := ρ.iv 29) rfl (by show (-9223372036854775808 : Int) ≤ ρ.iv 29; omega) (by show ρ.iv 29 ≤ 9223372036854775807; omega)
      · exact fit_of (z := ρ.iv 30) rfl (by show (-9223372036854775808 : Int) ≤ ρ.iv 30; omega) (by show ρ.iv 30 ≤ 9223372036854775807; omega)
      · exact fit_of (z := ρ.iv 31) rfl (by show (-9223372036854775808 : Int) ≤ ρ.iv 31; omega) (by show ρ.iv 31 ≤ 9223372036854775807; omega)
      · exact fit_of (z := ρ.iv 4) rfl (by show (0 : Int) ≤ ρ.iv 4; omega) (by show ρ.iv 4 ≤ 1000; omega)
      · exact fit_of (z := ρ.iv 6) rfl (by show (0 : Int) ≤ ρ.iv 6; omega) (by show ρ.iv 6 ≤ 1000; omega)
      · exact fit_of (z := ρ.iv 32) rfl (by show (-9223372036854775808 : Int) ≤ ρ.iv 32; omega) (by show ρ.iv 32 ≤ 9223372036854775807; omega))
    (fun ρ h hv => Eq.mpr (rA_w0 ρ) (by
      trivial))
    (by
      refine List.forall_mem_cons.2 ⟨?_, fun _ h => nomatch h⟩
      · intro ρ h hv hp
        obtain ⟨h0, h1, h2, h3, h4, h5, h6, h7, h8, h9, h10, -⟩ := Eq.mp (rA_says0 ρ) hv
        have key := rA_pl (F10 := fun a0 a1 a2 a3 a4 a5 => ρ.fn 10 [a0, a1, a2, a3, a4, a5]) (F66 := fun a0 a1 a2 a3 a4 a5 a6 => ρ.fn 66 [a0, a1, a2, a3, a4, a5, a6]) h0 h1 h2 h3 h4 h5 h6 h7 h8 h9 h10
        have hz : ρ.iv 1305154780191724881 = paxis (pline g.f g.n d.f d.n) (pgain d.f d.n) lo hi noise push surf travel rate slack limit confirm watch turn build := by
          rw [key]
          rw [show ρ.iv 20 = lo from h.at_ 20 rfl]
          rw [show ρ.iv 21 = hi from h.at_ 21 rfl]
          rw [show ρ.iv 22 = noise from h.at_ 22 rfl]
          rw [show ρ.iv 23 = push from h.at_ 23 rfl]
          rw [show ρ.iv 24 = surf from h.at_ 24 rfl]
          rw [show ρ.iv 25 = travel from h.at_ 25 rfl]
          rw [show ρ.iv 26 = rate from h.at_ 26 rfl]
          rw [show ρ.iv 27 = slack from h.at_ 27 rfl]
          rw [show ρ.iv 28 = limit from h.at_ 28 rfl]
          rw [show ρ.iv 29 = confirm from h.at_ 29 rfl]
          rw [show ρ.iv 30 = watch from h.at_ 30 rfl]
          rw [show ρ.iv 31 = turn from h.at_ 31 rfl]
          rw [show ρ.iv 32 = build from h.at_ 32 rfl]
          have f10 : (fun a b c d e f => ρ.fn 10 [a, b, c, d, e, f]) = pguardMay := by
            funext a b c d e f
            rw [h.std.f rfl]; rfl
          have f66 : (fun a b c d e => ρ.fn 66 [a, b, c, d, e, 0, 1]) = fun lo hi tu bu mo => phrule lo hi tu bu mo (pline g.f g.n d.f d.n) (pgain d.f d.n) := by
            funext a b c d' e
            rw [h.std.f rfl]; rfl
          rw [f10, f66]
          rfl
        refine ⟨.inr rfl, List.forall_mem_cons.2 ⟨?_, fun _ h => nomatch h⟩, [.int .i64 ⟨(.v 900), 0, 5⟩], by kernel_rfl, fun b => ?_⟩
        · exact fit_of (z := paxis (pline g.f g.n d.f d.n) (pgain d.f d.n) lo hi noise push surf travel rate slack limit confirm watch turn build) hz (paxis_bd (pline_bd _ _ _ _) _ _ _ _ _ _ _ _ _ _ _ _ _).1 (paxis_bd (pline_bd _ _ _ _) _ _ _ _ _ _ _ _ _ _ _ _ _).2
        · show Value.int .i64 (ρ.iv 1305154780191724881) = _
          rw [hz])
    h0 ⟨fun _ => 0, fun _ => 0, fun _ => 0⟩ w (noHeap _ _ _ _) (by
      unfold rAArgs
      simp only [SV.okL, SV.ok, R.ok, E.i, e20, e21, e22, e23, e24, e25, e26, e27, e28, e29, e30, e31, e32]
      exact ⟨⟨b20, b21, b22, b23, b24, b25, b26, b27, b28, b29, b30, b31, s1, s3, b32, trivial⟩, trivial⟩) hm
  have e : SV.denL ρ0 ⟨fun _ => 0, fun _ => 0, fun _ => 0⟩ rAArgs = [.agg #[.int .i64 lo, .int .i64 hi, .int .i64 noise, .int .i64 push, .int .i64 surf, .int .i64 travel, .int .i64 rate, .int .i64 slack, .int .i64 limit, .int .i64 confirm, .int .i64 watch, .int .i64 turn, .slice g.A g.n g.c, .slice d.A d.n d.c, .int .i64 build]] := by
    unfold rAArgs
    simp only [SV.denL]
    simp only [den_agg, SV.denL, den_int, E.i, e20, e21, e22, e23, e24, e25, e26, e27, e28, e29, e30, e31, e32]
    rw [s2, s4]
  rw [e] at key
  exact key
end Go.Proofs.Ytdfpenjhpemokaa.Sx
