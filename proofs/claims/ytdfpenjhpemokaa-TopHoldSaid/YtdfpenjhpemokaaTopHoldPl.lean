/-
  The law TopHold: the plain law.
-/
import Derived.Test.YtdfpenjhpemokaaHoldPl
set_option linter.unusedVariables false
set_option linter.unusedSimpArgs false
namespace Go.Proofs.Ytdfpenjhpemokaa.Sx
open Go.RowKit
theorem no_jump {p g m a b : Int} (h1 : -m ≤ p) (h2 : p ≤ m) (ha : a = min (max (p - g) (-m)) m) (hb : b = min (max (g + a) (-m)) m) : (b = p ∨ a = m) ∨ a = -m := by omega
theorem in_clip {y x lo hi : Int} (h : lo ≤ hi) (hy : y = min (max x lo) hi) : lo ≤ y ∧ y ≤ hi := by omega
set_option maxHeartbeats 2000000 in
theorem topHold_pl {P pl L : Int} {M : Int → Int → Int} {x4 x20 x21 x22 x23 x24 x25 x26 x27 x30 x31 x33 x34 y3 y4 y5 y6 y8 y9 y10 y11 y12 y13 y14 y15 y16 y17 y18 y19 y20 y21 y22 y23 y24 y25 y26 y27 : Int} {q1 q2 q7 q28 : Bool} {ga : Bool}
    (hP : P = phrule x20 x21 x22 x23 x24 pl ga) (hpl : 0 ≤ pl) (hM : ∀ a b, -2147483647 ≤ M a b ∧ M a b ≤ 2147483647)
    (h0 : q1 = ((((decide (x20 ≤ x25)) && (decide (x25 ≤ x21))) && ((decide ((IntKind.wrap .i64 ((0 : Int) - x24)) ≤ x26)) && (decide (x26 ≤ x24)))) && ((decide ((0 : Int) ≤ x27)) && (decide (x27 ≤ (3 : Int))))))
    (h1 : q2 = ((((decide ((-100 : Int) ≤ x30)) && (decide (x30 ≤ (100 : Int)))) && ((decide ((0 : Int) ≤ x33)) && (decide (x33 ≤ (3 : Int))))) && ((decide ((IntKind.wrap .i64 ((0 : Int) - x24)) ≤ x34)) && (decide (x34 ≤ x24)))))
    (h3 : y3 = P)
    (h4 : y4 = (if (!(decide (y3 = (0 : Int)))) = true then y3 else (if (!(decide ((if (!q1) = true then (3 : Int) else (0 : Int)) = (0 : Int)))) = true then (if (!q1) = true then (3 : Int) else (0 : Int)) else (if (!(decide ((if (!q2) = true then (1 : Int) else (0 : Int)) = (0 : Int)))) = true then (if (!q2) = true then (1 : Int) else (0 : Int)) else (0 : Int)))))
    (h5 : y5 = (if (!(decide (y3 = (0 : Int)))) = true then (if (!q1) = true then (3 : Int) else (0 : Int)) else (if (!(decide ((if (!q1) = true then (3 : Int) else (0 : Int)) = (0 : Int)))) = true then (if (!q1) = true then (3 : Int) else (0 : Int)) else (0 : Int))))
    (h6 : y6 = (if (!(decide (y3 = (0 : Int)))) = true then (if (!q2) = true then (1 : Int) else (0 : Int)) else (if (!(decide ((if (!q1) = true then (3 : Int) else (0 : Int)) = (0 : Int)))) = true then (if (!q2) = true then (1 : Int) else (0 : Int)) else (if (!(decide ((if (!q2) = true then (1 : Int) else (0 : Int)) = (0 : Int)))) = true then (if (!q2) = true then (1 : Int) else (0 : Int)) else (0 : Int)))))
    (h8 : q7 = (((((!((decide (x20 ≤ x25)) && (decide (x25 ≤ x21)))) || (decide (x26 < (IntKind.wrap .i64 ((0 : Int) - x24))))) || (decide (x24 < x26))) || (decide (x27 < (0 : Int)))) || (decide ((3 : Int) < x27))))
    (h9 : y8 = (if (((((decide (x30 < (-100 : Int))) || (decide ((100 : Int) < x30))) || (decide (x33 < (0 : Int)))) || (decide (x34 < (IntKind.wrap .i64 ((0 : Int) - x24))))) || (decide (x24 < x34))) = true then (1 : Int) else (0 : Int)))
    (h10 : y9 = (if ((decide (x31 < x20)) || (decide (x21 < x20))) = true then x20 else (if (decide (x21 < x31)) = true then x21 else x31)))
    (h11 : y10 = (IntKind.wrap .i64 ((if (!(decide (x33 = x27))) = true then y9 else x25) + (Int.tdiv (IntKind.wrap .i64 (x30 * x22)) (100 : Int)))))
    (h12 : y11 = (if ((decide (y10 < x20)) || (decide (x21 < x20))) = true then x20 else (if (decide (x21 < y10)) = true then x21 else y10)))
    (h16 : y12 = (if (!(decide (pl = (0 : Int)))) = true then pl else (0 : Int)))
    (h17 : y13 = (if (!(decide (pl = (0 : Int)))) = true then (0 : Int) else L))
    (h18 : y14 = (IntKind.wrap .i64 (y11 - (if (decide (x31 < (-2000000 : Int))) = true then (-2000000 : Int) else (if (decide ((2000000 : Int) < x31)) = true then (2000000 : Int) else x31)))))
    (h19 : y15 = (M y13 (if (decide (y14 < (-1000000 : Int))) = true then (-1000000 : Int) else (if (decide ((1000000 : Int) < y14)) = true then (1000000 : Int) else y14))))
    (h20 : y16 = (if (decide (x24 < (IntKind.wrap .i64 (x34 - y15)))) = true then x24 else (IntKind.wrap .i64 (x34 - y15))))
    (h21 : y17 = (if ((decide ((IntKind.wrap .i64 (x34 - y15)) < (IntKind.wrap .i64 ((0 : Int) - x24)))) || (decide (x24 < (IntKind.wrap .i64 ((0 : Int) - x24))))) = true then (IntKind.wrap .i64 ((0 : Int) - x24)) else y16))
    (h22 : y18 = (if (decide (x24 < (IntKind.wrap .i64 (y15 + (if (!(decide (x33 = x27))) = true then y17 else x26))))) = true then x24 else (IntKind.wrap .i64 (y15 + (if (!(decide (x33 = x27))) = true then y17 else x26)))))
    (h23 : y19 = (if ((decide ((IntKind.wrap .i64 (y15 + (if (!(decide (x33 = x27))) = true then y17 else x26))) < (IntKind.wrap .i64 ((0 : Int) - x24)))) || (decide (x24 < (IntKind.wrap .i64 ((0 : Int) - x24))))) = true then (IntKind.wrap .i64 ((0 : Int) - x24)) else y18))
    (h24 : y20 = (if (!(decide ((if (!(decide (y3 = (0 : Int)))) = true then y3 else (if q7 = true then (3 : Int) else y8)) = (0 : Int)))) = true then (if (!(decide (y3 = (0 : Int)))) = true then y3 else (if q7 = true then (3 : Int) else y8)) else (0 : Int)))
    (h25 : y21 = (if (!(decide ((if (!(decide (y3 = (0 : Int)))) = true then y3 else (if q7 = true then (3 : Int) else y8)) = (0 : Int)))) = true then (0 : Int) else y19))
    (h26 : y22 = (if (!(decide ((if (!(decide (y3 = (0 : Int)))) = true then y3 else (if q7 = true then (3 : Int) else y8)) = (0 : Int)))) = true then (0 : Int) else y11))
    (h27 : y23 = (if (!(decide ((if (!(decide (y3 = (0 : Int)))) = true then y3 else (if q7 = true then (3 : Int) else y8)) = (0 : Int)))) = true then (0 : Int) else (if (!(decide (x33 = x27))) = true then y17 else x26)))
    (h28 : y24 = (if (!(decide ((if (!(decide (y3 = (0 : Int)))) = true then y3 else (if q7 = true then (3 : Int) else y8)) = (0 : Int)))) = true then (0 : Int) else x33))
    (h29 : y25 = (if (!(decide ((if (!(decide (y3 = (0 : Int)))) = true then y3 else (if q7 = true then (3 : Int) else y8)) = (0 : Int)))) = true then x25 else y11))
    (h30 : y26 = (if (!(decide ((if (!(decide (y3 = (0 : Int)))) = true then y3 else (if q7 = true then (3 : Int) else y8)) = (0 : Int)))) = true then x26 else (if (!(decide (x33 = x27))) = true then y17 else x26)))
    (h31 : y27 = (if (!(decide ((if (!(decide (y3 = (0 : Int)))) = true then y3 else (if q7 = true then (3 : Int) else y8)) = (0 : Int)))) = true then x27 else x33))
    (h32 : q28 = ((((decide (y20 = (0 : Int))) && (((decide (y21 = x34)) || (decide (y23 = x24))) || (decide (y23 = (IntKind.wrap .i64 ((0 : Int) - x24)))))) && (decide (y24 = x33))) && ((decide (x20 ≤ y22)) && (decide (y22 ≤ x21)))))
    : (((((decide (20 < x4)) || (!(decide (y4 = 0)))) || (decide (x33 = x27))) || (decide (1 < x33))) || q28) = true := by
  subst h3
  by_cases hz : y3 = 0
  · have hr := hP.symm.trans hz
    unfold phrule at hr
    split at hr
    · rename_i hrg
      split at hr
      · exact absurd hr (by decide)
      · rename_i hlh
        have hp0 : pl = 0 := by
          by_cases hp : pl = 0
          · exact hp
          · rw [if_neg hp] at hr; exact absurd hr hp
        clear hr hP
        obtain ⟨⟨r1, r2⟩, ⟨r3, r4⟩, ⟨r5, r6⟩, ⟨r7, r8⟩, r9, r10⟩ := hrg
        have e0 : IntKind.wrap .i64 ((0 : Int) - x24) = -x24 := by rw [w64 _ (by omega) (by omega)]; omega
        simp only [e0] at *
        have h4' : y4 = if (!q1) = true then 3 else if (!q2) = true then 1 else 0 := by
          rw [h4, hz]; cases q1 <;> cases q2 <;> rfl
        clear h4
        cases q1 with
        | false =>
          have h4' : y4 = 3 := h4'
          rw [h4']
          simp
        | true =>
          cases q2 with
          | false =>
            have h4' : y4 = 1 := h4'
            rw [h4']
            simp
          | true =>
            by_cases c1 : x33 = x27
            · simp [c1]
            by_cases c2 : 1 < x33
            · simp [c2]
            replace h0 := h0.symm
            replace h1 := h1.symm
            simp only [Bool.and_eq_true, decide_eq_true_eq] at h0 h1
            obtain ⟨⟨⟨s1, s2⟩, s3, s4⟩, s5, s6⟩ := h0
            obtain ⟨⟨⟨t1, t2⟩, t3, t4⟩, t5, t6⟩ := h1
            have hq7 : q7 = false := by
              rw [h8]
              simp only [Bool.or_eq_false_iff, Bool.not_eq_false', Bool.and_eq_true, decide_eq_true_eq, decide_eq_false_iff_not]
              omega
            have hy8 : y8 = 0 := by
              rw [h9]
              have : (((((decide (x30 < (-100 : Int))) || (decide ((100 : Int) < x30))) || (decide (x33 < (0 : Int)))) || (decide (x34 < -x24))) || (decide (x24 < x34))) = false := by
                simp only [Bool.or_eq_false_iff, decide_eq_false_iff_not]
                omega
              rw [this]
              rfl
            have he : (if (!(decide (y3 = (0 : Int)))) = true then y3 else (if q7 = true then (3 : Int) else y8)) = 0 := by
              rw [hz, hq7, hy8]; rfl
            have hd33 : decide (x33 = x27) = false := decide_eq_false c1
            rw [he] at h24 h25 h26 h27 h28
            simp only [hd33, Bool.not_false, if_true, decide_true, Bool.not_true, Bool.false_eq_true, if_false] at h22 h23 h24 h25 h26 h27 h28
            rw [clip_or (by omega)] at h12
            have m15 := hM y13 (if (decide (y14 < (-1000000 : Int))) = true then (-1000000 : Int) else (if (decide ((1000000 : Int) < y14)) = true then (1000000 : Int) else y14))
            rw [← h19] at m15
            clear h8 h9 h10 h11 h16 h17 h18 h19 h29 h30 h31 hM
            rw [w64 (x34 - y15) (by omega) (by omega)] at h20 h21
            rw [h20, clip_or (by omega)] at h21
            have b17 := in_clip (by omega) h21
            rw [w64 (y15 + y17) (by omega) (by omega)] at h22 h23
            rw [h22, clip_or (by omega)] at h23
            have hj := no_jump (by omega) (by omega) h21 h23
            have hi := in_clip (by omega) h12
            have hq : q28 = true := by
              rw [h32, h24, h25, h26, h27, h28]
              simp only [Bool.and_eq_true, Bool.or_eq_true, decide_eq_true_eq]
              exact ⟨⟨⟨trivial, hj⟩, trivial⟩, hi.1, hi.2⟩
            rw [hq, Bool.or_true]
    · exact absurd hr (by decide)
  · have e4 : ¬ y4 = 0 := by rw [h4]; simp [hz]
    simp [e4]
end Go.Proofs.Ytdfpenjhpemokaa.Sx
