/-
  The law HoldSays: the plain law.
-/
import Derived.Test.YtdfpenjhpemokaaHoldB
set_option linter.unusedVariables false
set_option linter.unusedSimpArgs false
namespace Go.Proofs.Ytdfpenjhpemokaa.Sx
open Go.RowKit
theorem clip_or {x lo hi : Int} (h : lo ≤ hi) : (if (decide (x < lo) || decide (hi < lo)) = true then lo else if decide (hi < x) = true then hi else x) = min (max x lo) hi := by
  simp only [Bool.or_eq_true, decide_eq_true_eq]
  (repeat' split) <;> omega
theorem clip_no {x lo hi : Int} (h : lo ≤ hi) : (if decide (x < lo) = true then lo else if decide (hi < x) = true then hi else x) = min (max x lo) hi := by
  simp only [decide_eq_true_eq]
  (repeat' split) <;> omega
theorem htdiv_bd {a B : Int} (h1 : -(100 * B) ≤ a) (h2 : a ≤ 100 * B) : -B ≤ Int.tdiv a 100 ∧ Int.tdiv a 100 ≤ B := by
  rcases Int.le_total 0 a with h | h
  · rw [Int.tdiv_eq_ediv_of_nonneg h]; omega
  · have e : Int.tdiv a 100 = -((-a) / 100) := by
      rw [show a = -(-a) by omega, Int.neg_tdiv, Int.tdiv_eq_ediv_of_nonneg (by omega), Int.neg_neg]
    rw [e]; omega
set_option maxHeartbeats 2000000 in
theorem holdSays_pl {P pl L : Int} {M : Int → Int → Int} {x20 x21 x22 x23 x24 x25 x26 x27 x28 x29 x30 x31 x32 x33 x34 y3 y4 y5 y6 y7 y8 y9 y10 y11 y12 y13 y14 y15 y16 y17 y18 y19 y22 y23 y24 y25 y26 y27 y28 y29 y30 y31 y32 y33 y34 y35 y36 y37 y38 y39 y40 y41 y42 y43 y44 y45 y46 y47 y48 : Int} {q1 q2 q20 q21 q49 q50 q51 : Bool} {ga : Bool}
    (hP : P = phrule x20 x21 x22 x23 x24 pl ga) (hpl : 0 ≤ pl) (hM : ∀ a b, -2147483647 ≤ M a b ∧ M a b ≤ 2147483647)
    (h0 : q1 = ((((decide (x20 ≤ x25)) && (decide (x25 ≤ x21))) && ((decide ((IntKind.wrap .i64 ((0 : Int) - x24)) ≤ x26)) && (decide (x26 ≤ x24)))) && ((decide ((0 : Int) ≤ x27)) && (decide (x27 ≤ (3 : Int))))))
    (h1 : q2 = ((((decide ((-100 : Int) ≤ x30)) && (decide (x30 ≤ (100 : Int)))) && ((decide ((0 : Int) ≤ x33)) && (decide (x33 ≤ (3 : Int))))) && ((decide ((IntKind.wrap .i64 ((0 : Int) - x24)) ≤ x34)) && (decide (x34 ≤ x24)))))
    (h2 : y3 = P)
    (h3 : y4 = (if (!(decide (y3 = (0 : Int)))) = true then y3 else (if (!(decide ((if (!q1) = true then (3 : Int) else (0 : Int)) = (0 : Int)))) = true then (if (!q1) = true then (3 : Int) else (0 : Int)) else (if (!(decide ((if (!q2) = true then (1 : Int) else (0 : Int)) = (0 : Int)))) = true then (if (!q2) = true then (1 : Int) else (0 : Int)) else (0 : Int)))))
    (h4 : y5 = (if (!(decide (y3 = (0 : Int)))) = true then (if (!q1) = true then (3 : Int) else (0 : Int)) else (if (!(decide ((if (!q1) = true then (3 : Int) else (0 : Int)) = (0 : Int)))) = true then (if (!q1) = true then (3 : Int) else (0 : Int)) else (0 : Int))))
    (h5 : y6 = (if (!(decide (y3 = (0 : Int)))) = true then (if (!q2) = true then (1 : Int) else (0 : Int)) else (if (!(decide ((if (!q1) = true then (3 : Int) else (0 : Int)) = (0 : Int)))) = true then (if (!q2) = true then (1 : Int) else (0 : Int)) else (if (!(decide ((if (!q2) = true then (1 : Int) else (0 : Int)) = (0 : Int)))) = true then (if (!q2) = true then (1 : Int) else (0 : Int)) else (0 : Int)))))
    (h6 : y7 = (IntKind.wrap .i64 ((0 : Int) - (Int.tdiv (IntKind.wrap .i64 ((IntKind.wrap .i64 ((0 : Int) - x30)) * x24)) (100 : Int)))))
    (h7 : y8 = (IntKind.wrap .i64 ((0 : Int) - (Int.tdiv (IntKind.wrap .i64 ((IntKind.wrap .i64 ((0 : Int) - x30)) * x22)) (100 : Int)))))
    (h8 : y9 = (IntKind.wrap .i64 ((if (!(decide (x33 = x27))) = true then (min (max x31 x20) x21) else x25) + (if (decide (x30 < (0 : Int))) = true then y8 else (Int.tdiv (IntKind.wrap .i64 (x30 * x22)) (100 : Int))))))
    (h10 : y10 = (IntKind.wrap .i64 ((min (max y9 x20) x21) - (min (max x31 (-2000000 : Int)) (2000000 : Int)))))
    (h11 : y11 = (M L (min (max y10 (-1000000 : Int)) (1000000 : Int))))
    (h12 : y12 = (if (!(decide (x33 = x27))) = true then (min (max (IntKind.wrap .i64 (x34 - y11)) (IntKind.wrap .i64 ((0 : Int) - x24))) x24) else x26))
    (h13 : y13 = (if (decide (x33 = (3 : Int))) = true then (0 : Int) else (min (max (IntKind.wrap .i64 (y11 + y12)) (IntKind.wrap .i64 ((0 : Int) - x24))) x24)))
    (h14 : y14 = (if (decide (x33 = (2 : Int))) = true then (if (decide (x30 < (0 : Int))) = true then y7 else (Int.tdiv (IntKind.wrap .i64 (x30 * x24)) (100 : Int))) else y13))
    (h15 : y15 = (if (decide (x33 = (2 : Int))) = true then x25 else (if (decide (x33 = (3 : Int))) = true then x25 else (min (max y9 x20) x21))))
    (h16 : y16 = (min (max (IntKind.wrap .i64 (x25 - (min (max x31 (-2000000 : Int)) (2000000 : Int)))) (-1000000 : Int)) (1000000 : Int)))
    (h17 : y17 = (max (IntKind.wrap .i64 (x26 + (M x23 y16))) (IntKind.wrap .i64 ((0 : Int) - x24))))
    (h18 : y18 = (if ((decide (x28 = x29)) && (decide (x33 = (0 : Int)))) = true then (min y17 x24) else x26))
    (h19 : y19 = (if (decide (y4 = (0 : Int))) = true then (if (decide (x33 = (2 : Int))) = true then x26 else (if (decide (x33 = (3 : Int))) = true then x26 else y12)) else (0 : Int)))
    (h20 : q20 = (((((!((decide (x20 ≤ x25)) && (decide (x25 ≤ x21)))) || (decide (x26 < (IntKind.wrap .i64 ((0 : Int) - x24))))) || (decide (x24 < x26))) || (decide (x27 < (0 : Int)))) || (decide ((3 : Int) < x27))))
    (h21 : q21 = ((((((decide (x30 < (-100 : Int))) || (decide ((100 : Int) < x30))) || (decide (x33 < (0 : Int)))) || (decide ((3 : Int) < x33))) || (decide (x34 < (IntKind.wrap .i64 ((0 : Int) - x24))))) || (decide (x24 < x34))))
    (h22 : y22 = (if (!(decide (y3 = (0 : Int)))) = true then y3 else (if q20 = true then (3 : Int) else (if q21 = true then (1 : Int) else (0 : Int)))))
    (h23 : y23 = (if ((decide (x31 < x20)) || (decide (x21 < x20))) = true then x20 else (if (decide (x21 < x31)) = true then x21 else x31)))
    (h24 : y24 = (IntKind.wrap .i64 ((if (!(decide (x33 = x27))) = true then y23 else x25) + (Int.tdiv (IntKind.wrap .i64 (x30 * x22)) (100 : Int)))))
    (h25 : y25 = (if ((decide (y24 < x20)) || (decide (x21 < x20))) = true then x20 else (if (decide (x21 < y24)) = true then x21 else y24)))
    (h27 : y26 = (if (!(decide (pl = (0 : Int)))) = true then pl else (0 : Int)))
    (h28 : y27 = (if (!(decide (pl = (0 : Int)))) = true then (0 : Int) else L))
    (h29 : y28 = (IntKind.wrap .i64 (y25 - (if (decide (x31 < (-2000000 : Int))) = true then (-2000000 : Int) else (if (decide ((2000000 : Int) < x31)) = true then (2000000 : Int) else x31)))))
    (h30 : y29 = (M y27 (if (decide (y28 < (-1000000 : Int))) = true then (-1000000 : Int) else (if (decide ((1000000 : Int) < y28)) = true then (1000000 : Int) else y28))))
    (h31 : y30 = (if (decide (x24 < (IntKind.wrap .i64 (x34 - y29)))) = true then x24 else (IntKind.wrap .i64 (x34 - y29))))
    (h32 : y31 = (if ((decide ((IntKind.wrap .i64 (x34 - y29)) < (IntKind.wrap .i64 ((0 : Int) - x24)))) || (decide (x24 < (IntKind.wrap .i64 ((0 : Int) - x24))))) = true then (IntKind.wrap .i64 ((0 : Int) - x24)) else y30))
    (h33 : y32 = (if (decide (x24 < (IntKind.wrap .i64 (y29 + (if (!(decide (x33 = x27))) = true then y31 else x26))))) = true then x24 else (IntKind.wrap .i64 (y29 + (if (!(decide (x33 = x27))) = true then y31 else x26)))))
    (h34 : y33 = (if ((decide ((IntKind.wrap .i64 (y29 + (if (!(decide (x33 = x27))) = true then y31 else x26))) < (IntKind.wrap .i64 ((0 : Int) - x24)))) || (decide (x24 < (IntKind.wrap .i64 ((0 : Int) - x24))))) = true then (IntKind.wrap .i64 ((0 : Int) - x24)) else y32))
    (h35 : y34 = (if (decide (x33 = (2 : Int))) = true then (Int.tdiv (IntKind.wrap .i64 (x30 * x24)) (100 : Int)) else (if (decide (x33 = (3 : Int))) = true then (0 : Int) else y33)))
    (h36 : y35 = (if (decide (x33 = (2 : Int))) = true then x26 else (if (decide (x33 = (3 : Int))) = true then x26 else (if (!(decide (x33 = x27))) = true then y31 else x26))))
    (h37 : y36 = (if (!(decide (y22 = (0 : Int)))) = true then (0 : Int) else (if (decide (x33 = (2 : Int))) = true then x25 else (if (decide (x33 = (3 : Int))) = true then x25 else y25))))
    (h38 : y37 = (if (!(decide (y22 = (0 : Int)))) = true then x25 else (if (decide (x33 = (2 : Int))) = true then x25 else (if (decide (x33 = (3 : Int))) = true then x25 else y25))))
    (h39 : y38 = ((if (decide (x32 < (0 : Int))) = true then (0 : Int) else (if (decide ((1 : Int) < x32)) = true then (1 : Int) else x32)) * (IntKind.wrap .i64 (0 : Int))))
    (h40 : y39 = (IntKind.wrap .i64 ((Int.tdiv (IntKind.wrap .i64 ((IntKind.wrap .i64 ((2 : Int) * y38)) + (1 : Int))) (2 : Int)) - (1 : Int))))
    (h41 : y40 = (if (decide ((Int.tmod (IntKind.wrap .i64 ((IntKind.wrap .i64 ((2 : Int) * y38)) + (1 : Int))) (2 : Int)) < (0 : Int))) = true then y39 else (Int.tdiv (IntKind.wrap .i64 ((IntKind.wrap .i64 ((2 : Int) * y38)) + (1 : Int))) (2 : Int))))
    (h42 : y41 = (if (!(decide ((if ((decide (x23 < (-1000000 : Int))) || (decide ((1000000 : Int) < x23))) = true then (1 : Int) else (0 : Int)) = (0 : Int)))) = true then (if ((decide (x23 < (-1000000 : Int))) || (decide ((1000000 : Int) < x23))) = true then (1 : Int) else (0 : Int)) else (0 : Int)))
    (h43 : y42 = (if (!(decide ((if ((decide (x23 < (-1000000 : Int))) || (decide ((1000000 : Int) < x23))) = true then (1 : Int) else (0 : Int)) = (0 : Int)))) = true then (0 : Int) else (IntKind.wrap .i64 (x23 + y40))))
    (h44 : y43 = (IntKind.wrap .i64 (x25 - (if (decide (x31 < (-2000000 : Int))) = true then (-2000000 : Int) else (if (decide ((2000000 : Int) < x31)) = true then (2000000 : Int) else x31)))))
    (h45 : y44 = (M y42 (if (decide (y43 < (-1000000 : Int))) = true then (-1000000 : Int) else (if (decide ((1000000 : Int) < y43)) = true then (1000000 : Int) else y43))))
    (h46 : y45 = (if (decide (x24 < (IntKind.wrap .i64 (x26 + y44)))) = true then x24 else (IntKind.wrap .i64 (x26 + y44))))
    (h47 : y46 = (if ((decide ((IntKind.wrap .i64 (x26 + y44)) < (IntKind.wrap .i64 ((0 : Int) - x24)))) || (decide (x24 < (IntKind.wrap .i64 ((0 : Int) - x24))))) = true then (IntKind.wrap .i64 ((0 : Int) - x24)) else y45))
    (h48 : y47 = (if ((!(decide (x28 = x29))) || (!(decide (x33 = (0 : Int))))) = true then x26 else y46))
    (h49 : y48 = (if ((!(decide (x28 = x29))) || (!(decide (x33 = (0 : Int))))) = true then x33 else (0 : Int)))
    (h50 : q49 = ((decide ((if (!(decide (y22 = (0 : Int)))) = true then y22 else (0 : Int)) = y4)) && (decide ((if (!(decide (y22 = (0 : Int)))) = true then (0 : Int) else y34) = (if (decide (y4 = (0 : Int))) = true then y14 else (0 : Int))))))
    (h51 : q50 = ((decide (y36 = (if (decide (y4 = (0 : Int))) = true then y15 else (0 : Int)))) && ((decide ((if (!(decide (y22 = (0 : Int)))) = true then (0 : Int) else y35) = y19)) && (decide ((if (!(decide (y22 = (0 : Int)))) = true then (0 : Int) else x33) = (if (decide (y4 = (0 : Int))) = true then x33 else (0 : Int)))))))
    (h52 : q51 = ((decide ((if (!(decide (y22 = (0 : Int)))) = true then (0 : Int) else x25) = (if (decide (y4 = (0 : Int))) = true then x25 else (0 : Int)))) && ((decide ((if (!(decide (y22 = (0 : Int)))) = true then (0 : Int) else y47) = (if (decide (y4 = (0 : Int))) = true then y18 else (0 : Int)))) && (decide ((if (!(decide (y22 = (0 : Int)))) = true then (0 : Int) else x27) = (if (decide (y4 = (0 : Int))) = true then x27 else (0 : Int)))))))
    : ((q49 && q50) && q51) = true := by
  subst h2
  by_cases hz : y3 = 0
  · have hr := hP.symm.trans hz
    unfold phrule at hr
    split at hr
    · rename_i hrg
      split at hr
      · exact absurd hr (by decide)
      · rename_i hlh
        have hp0 : pl = 0 := by
          by_cases hp : pl = 0
          · exact hp
          · rw [if_neg hp] at hr; exact absurd hr hp
        clear hr hP
        obtain ⟨⟨r1, r2⟩, ⟨r3, r4⟩, ⟨r5, r6⟩, ⟨r7, r8⟩, r9, r10⟩ := hrg
        have e0 : IntKind.wrap .i64 ((0 : Int) - x24) = -x24 := by rw [w64 _ (by omega) (by omega)]; omega
        simp only [e0] at *
        have hq20 : q20 = !q1 := by
          rw [Bool.eq_iff_iff, h20, h0]
          simp only [Bool.or_eq_true, Bool.not_eq_true', Bool.and_eq_false_imp, Bool.and_eq_true, decide_eq_true_eq, decide_eq_false_iff_not]
          omega
        have hq21 : q21 = !q2 := by
          rw [Bool.eq_iff_iff, h21, h1]
          simp only [Bool.or_eq_true, Bool.not_eq_true', Bool.and_eq_false_imp, Bool.and_eq_true, decide_eq_true_eq, decide_eq_false_iff_not]
          omega
        have h4 : y4 = if (!q1) = true then 3 else if (!q2) = true then 1 else 0 := by
          rw [h3, hz]; cases q1 <;> cases q2 <;> rfl
        have h22' : y22 = if (!q1) = true then 3 else if (!q2) = true then 1 else 0 := by
          rw [h22, hz, hq20, hq21]; cases q1 <;> cases q2 <;> rfl
        clear h3 h22 hq20 hq21 h20 h21
        cases q1 with
        | false =>
          have h4 : y4 = 3 := h4
          have h22' : y22 = 3 := h22'
          subst h4 h22'
          rw [h50, h51, h52, h37, h36, h19]
          rfl
        | true =>
          cases q2 with
          | false =>
            have h4 : y4 = 1 := h4
            have h22' : y22 = 1 := h22'
            subst h4 h22'
            rw [h50, h51, h52, h37, h36, h19]
            rfl
          | true =>
            have h4 : y4 = 0 := h4
            have h22' : y22 = 0 := h22'
            subst h4 h22'
            replace h0 := h0.symm
            replace h1 := h1.symm
            simp only [Bool.and_eq_true, decide_eq_true_eq] at h0 h1
            obtain ⟨⟨⟨s1, s2⟩, s3, s4⟩, s5, s6⟩ := h0
            obtain ⟨⟨⟨t1, t2⟩, t3, t4⟩, t5, t6⟩ := h1
            have hw0 : IntKind.wrap .i64 ((0 : Int) - x30) = -x30 := by rw [w64 _ (by omega) (by omega)]; omega
            rw [hw0, Int.neg_mul] at h6 h7
            have m22 := mulAB (a := x30) (b := x22) (A := 100) (B := 1000) (by omega) (by omega) (by omega) (by omega)
            have m24 := mulAB (a := x30) (b := x24) (A := 100) (B := 4000) (by omega) (by omega) (by omega) (by omega)
            rw [w64 (x30 * x22) (by omega) (by omega)] at h8 h24
            rw [w64 (x30 * x24) (by omega) (by omega)] at h14 h35
            rw [w64 (-(x30 * x24)) (by omega) (by omega), Int.neg_tdiv] at h6
            rw [w64 (-(x30 * x22)) (by omega) (by omega), Int.neg_tdiv] at h7
            generalize x30 * x22 = a22 at *
            generalize x30 * x24 = a24 at *
            have b22 := htdiv_bd (a := a22) (B := 1000) (by omega) (by omega)
            have b24 := htdiv_bd (a := a24) (B := 4000) (by omega) (by omega)
            generalize Int.tdiv a22 100 = d22 at *
            generalize Int.tdiv a24 100 = d24 at *
            rw [w64 _ (by omega) (by omega)] at h6 h7
            have h6 : y7 = d24 := by omega
            have h7 : y8 = d22 := by omega
            subst h6 h7
            rw [ite_self] at h8 h14
            rw [clip_or (by omega)] at h23 h25
            rw [clip_no (by omega)] at h29 h30 h44 h45
            subst h23
            rw [← h8] at h24
            subst h24
            have h28 : y27 = L := by rw [h28, hp0]; rfl
            subst h28
            rw [h25, ← h10] at h29
            subst h29
            rw [← h11] at h30
            subst h30
            rw [h31, clip_or (by omega)] at h32
            rw [h33] at h34
            rw [← h32] at h12
            rw [← h12, clip_or (by omega)] at h34
            have hz0 : IntKind.wrap .i64 0 = 0 := rfl
            rw [hz0, Int.mul_zero] at h39
            subst h39
            have h41 : y40 = 0 := by rw [h41]; rfl
            subst h41
            have hx23 : (decide (x23 < -1000000) || decide (1000000 < x23)) = false := by
              rw [Bool.or_eq_false_iff]; exact ⟨decide_eq_false (by omega), decide_eq_false (by omega)⟩
            have h43 : y42 = x23 := by
              rw [h43, hx23]
              show IntKind.wrap .i64 (x23 + 0) = x23
              rw [w64 _ (by omega) (by omega)]; omega
            subst h43
            rw [h44, ← h16] at h45
            subst h45
            rw [h46, clip_or (by omega), ← h17] at h47
            subst h47
            rw [h50, h51, h52, h37, h36, h19, h14, h15, h18, h35, h48, h13, h34, h25]
            rw [← h12]
            by_cases c1 : x33 = 2
            · simp [c1]
            · by_cases c2 : x33 = 3
              · simp [c1, c2]
              · simp [c1, c2]
                by_cases c3 : x28 = x29 <;> by_cases c4 : x33 = 0 <;> simp [c3, c4]
    · exact absurd hr (by decide)
  · have e4 : y4 = y3 := by rw [h3]; simp [hz]
    have e22 : y22 = y3 := by rw [h22]; simp [hz]
    rw [h50, h51, h52, h37, h19]
    simp [e4, e22, hz]
end Go.Proofs.Ytdfpenjhpemokaa.Sx
