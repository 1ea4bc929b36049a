/-
  The law VoteRuns: its parts, in plain numbers. Written by a program of ours (wip/dev/sx), but for the proofs.
-/
import Derived.IntWalk
set_option linter.unusedVariables false
set_option linter.unusedSimpArgs false
namespace Go.Proofs.Ytdfpenjhpemokaa.Sx
set_option maxHeartbeats 4000000 in
theorem vr_20 {f40_x13_ f41_x13_ f42_x13_ x0 x20 x23 y0 y1 y13 y17 y2 y21 y25 y3 y4 y42 y48 y5 y6 : Int} {g40_x13_ g41_x13_ g42_x13_ p20 p21 p22 q14 q18 q26 q29 q33 q37 : Bool}
  (h0 : y0 = (if (g40_x13_ && ((decide (f40_x13_ < (-1000000 : Int))) || (decide ((1000000 : Int) < f40_x13_)))) = true then (1 : Int) else (0 : Int)))
  (h1 : y1 = (if (((decide (y0 = (0 : Int))) && g41_x13_) && ((decide (f41_x13_ < (-1000000 : Int))) || (decide ((1000000 : Int) < f41_x13_)))) = true then (1 : Int) else y0))
  (h2 : y2 = (if (((decide (y1 = (0 : Int))) && g42_x13_) && ((decide (f42_x13_ < (-1000000 : Int))) || (decide ((1000000 : Int) < f42_x13_)))) = true then (1 : Int) else y1))
  (h3 : y3 = (min (max f40_x13_ f41_x13_) f42_x13_))
  (h4 : y4 = (IntKind.wrap .i64 (f40_x13_ - (max (min f40_x13_ f41_x13_) y3))))
  (h5 : y5 = (IntKind.wrap .i64 ((max (min f40_x13_ f41_x13_) y3) - f40_x13_)))
  (h6 : y6 = (if p20 = true then x20 else (if ((g40_x13_ && (decide (y4 ≤ x0))) && (decide (y5 ≤ x0))) = true then (0 : Int) else (min (x20 + (1 : Int)) (10 : Int)))))
  (h7 : y13 = ((IntKind.wrap .i64 (f40_x13_ + f41_x13_)) / (2 : Int)))
  (h8 : q14 = ((g40_x13_ && (decide ((IntKind.wrap .i64 (f40_x13_ - y13)) ≤ x0))) && (decide ((IntKind.wrap .i64 (y13 - f40_x13_)) ≤ x0))))
  (h9 : y17 = ((IntKind.wrap .i64 (f40_x13_ + f42_x13_)) / (2 : Int)))
  (h10 : q18 = ((g40_x13_ && (decide ((IntKind.wrap .i64 (f40_x13_ - y17)) ≤ x0))) && (decide ((IntKind.wrap .i64 (y17 - f40_x13_)) ≤ x0))))
  (h11 : y21 = (if p20 = true then x20 else (if ((g40_x13_ && (decide ((IntKind.wrap .i64 (0 : Int)) ≤ x0))) && (decide ((IntKind.wrap .i64 (0 : Int)) ≤ x0))) = true then (0 : Int) else (min (x20 + (1 : Int)) (10 : Int)))))
  (h12 : y25 = ((IntKind.wrap .i64 (f41_x13_ + f42_x13_)) / (2 : Int)))
  (h13 : q26 = ((g40_x13_ && (decide ((IntKind.wrap .i64 (f40_x13_ - y25)) ≤ x0))) && (decide ((IntKind.wrap .i64 (y25 - f40_x13_)) ≤ x0))))
  (h14 : q29 = ((g40_x13_ && (decide ((IntKind.wrap .i64 (f40_x13_ - f41_x13_)) ≤ x0))) && (decide ((IntKind.wrap .i64 (f41_x13_ - f40_x13_)) ≤ x0))))
  (h15 : q33 = ((g40_x13_ && (decide ((IntKind.wrap .i64 (f40_x13_ - f42_x13_)) ≤ x0))) && (decide ((IntKind.wrap .i64 (f42_x13_ - f40_x13_)) ≤ x0))))
  (h16 : q37 = ((g40_x13_ && (decide ((IntKind.wrap .i64 (f40_x13_ - x23)) ≤ x0))) && (decide ((IntKind.wrap .i64 (x23 - f40_x13_)) ≤ x0))))
  (h17 : y42 = (if (g40_x13_ && (!p20)) = true then (if (g41_x13_ && (!p21)) = true then (if (g42_x13_ && (!p22)) = true then y6 else (if p20 = true then x20 else (if q14 = true then (0 : Int) else (min (x20 + (1 : Int)) (10 : Int))))) else (if (g42_x13_ && (!p22)) = true then (if p20 = true then x20 else (if q18 = true then (0 : Int) else (min (x20 + (1 : Int)) (10 : Int)))) else y21)) else (if (g41_x13_ && (!p21)) = true then (if (g42_x13_ && (!p22)) = true then (if p20 = true then x20 else (if q26 = true then (0 : Int) else (min (x20 + (1 : Int)) (10 : Int)))) else (if p20 = true then x20 else (if q29 = true then (0 : Int) else (min (x20 + (1 : Int)) (10 : Int))))) else (if (g42_x13_ && (!p22)) = true then (if p20 = true then x20 else (if q33 = true then (0 : Int) else (min (x20 + (1 : Int)) (10 : Int)))) else (if p20 = true then x20 else (if q37 = true then (0 : Int) else (min (x20 + (1 : Int)) (10 : Int))))))))
  (h18 : y48 = (if (decide ((if (!(decide (y2 = (0 : Int)))) = true then y2 else (0 : Int)) = (0 : Int))) = true then (if (!(decide (y2 = (0 : Int)))) = true then (0 : Int) else y42) else x20))
  (i0 : 0 ≤ x20 ∧ x20 ≤ 10)
  : 0 ≤ y48 ∧ y48 ≤ 10 := by
  subst h18 h17 h16 h15 h14 h13 h12 h11 h10 h9 h8 h7 h6 h5 h4 h3 h2 h1 h0
  constructor <;> (repeat' (first | omega | split))
set_option maxHeartbeats 4000000 in
theorem vr_21 {f40_x13_ f41_x13_ f42_x13_ x0 x21 x23 y0 y1 y13 y17 y2 y25 y3 y30 y43 y49 y7 y8 y9 : Int} {g40_x13_ g41_x13_ g42_x13_ p20 p21 p22 q15 q19 q23 q27 q34 q38 : Bool}
  (h0 : y0 = (if (g40_x13_ && ((decide (f40_x13_ < (-1000000 : Int))) || (decide ((1000000 : Int) < f40_x13_)))) = true then (1 : Int) else (0 : Int)))
  (h1 : y1 = (if (((decide (y0 = (0 : Int))) && g41_x13_) && ((decide (f41_x13_ < (-1000000 : Int))) || (decide ((1000000 : Int) < f41_x13_)))) = true then (1 : Int) else y0))
  (h2 : y2 = (if (((decide (y1 = (0 : Int))) && g42_x13_) && ((decide (f42_x13_ < (-1000000 : Int))) || (decide ((1000000 : Int) < f42_x13_)))) = true then (1 : Int) else y1))
  (h3 : y3 = (min (max f40_x13_ f41_x13_) f42_x13_))
  (h4 : y7 = (IntKind.wrap .i64 (f41_x13_ - (max (min f40_x13_ f41_x13_) y3))))
  (h5 : y8 = (IntKind.wrap .i64 ((max (min f40_x13_ f41_x13_) y3) - f41_x13_)))
  (h6 : y9 = (if p21 = true then x21 else (if ((g41_x13_ && (decide (y7 ≤ x0))) && (decide (y8 ≤ x0))) = true then (0 : Int) else (min (x21 + (1 : Int)) (10 : Int)))))
  (h7 : y13 = ((IntKind.wrap .i64 (f40_x13_ + f41_x13_)) / (2 : Int)))
  (h8 : q15 = ((g41_x13_ && (decide ((IntKind.wrap .i64 (f41_x13_ - y13)) ≤ x0))) && (decide ((IntKind.wrap .i64 (y13 - f41_x13_)) ≤ x0))))
  (h9 : y17 = ((IntKind.wrap .i64 (f40_x13_ + f42_x13_)) / (2 : Int)))
  (h10 : q19 = ((g41_x13_ && (decide ((IntKind.wrap .i64 (f41_x13_ - y17)) ≤ x0))) && (decide ((IntKind.wrap .i64 (y17 - f41_x13_)) ≤ x0))))
  (h11 : q23 = ((g41_x13_ && (decide ((IntKind.wrap .i64 (f41_x13_ - f40_x13_)) ≤ x0))) && (decide ((IntKind.wrap .i64 (f40_x13_ - f41_x13_)) ≤ x0))))
  (h12 : y25 = ((IntKind.wrap .i64 (f41_x13_ + f42_x13_)) / (2 : Int)))
  (h13 : q27 = ((g41_x13_ && (decide ((IntKind.wrap .i64 (f41_x13_ - y25)) ≤ x0))) && (decide ((IntKind.wrap .i64 (y25 - f41_x13_)) ≤ x0))))
  (h14 : y30 = (if p21 = true then x21 else (if ((g41_x13_ && (decide ((IntKind.wrap .i64 (0 : Int)) ≤ x0))) && (decide ((IntKind.wrap .i64 (0 : Int)) ≤ x0))) = true then (0 : Int) else (min (x21 + (1 : Int)) (10 : Int)))))
  (h15 : q34 = ((g41_x13_ && (decide ((IntKind.wrap .i64 (f41_x13_ - f42_x13_)) ≤ x0))) && (decide ((IntKind.wrap .i64 (f42_x13_ - f41_x13_)) ≤ x0))))
  (h16 : q38 = ((g41_x13_ && (decide ((IntKind.wrap .i64 (f41_x13_ - x23)) ≤ x0))) && (decide ((IntKind.wrap .i64 (x23 - f41_x13_)) ≤ x0))))
  (h17 : y43 = (if (g40_x13_ && (!p20)) = true then (if (g41_x13_ && (!p21)) = true then (if (g42_x13_ && (!p22)) = true then y9 else (if p21 = true then x21 else (if q15 = true then (0 : Int) else (min (x21 + (1 : Int)) (10 : Int))))) else (if (g42_x13_ && (!p22)) = true then (if p21 = true then x21 else (if q19 = true then (0 : Int) else (min (x21 + (1 : Int)) (10 : Int)))) else (if p21 = true then x21 else (if q23 = true then (0 : Int) else (min (x21 + (1 : Int)) (10 : Int)))))) else (if (g41_x13_ && (!p21)) = true then (if (g42_x13_ && (!p22)) = true then (if p21 = true then x21 else (if q27 = true then (0 : Int) else (min (x21 + (1 : Int)) (10 : Int)))) else y30) else (if (g42_x13_ && (!p22)) = true then (if p21 = true then x21 else (if q34 = true then (0 : Int) else (min (x21 + (1 : Int)) (10 : Int)))) else (if p21 = true then x21 else (if q38 = true then (0 : Int) else (min (x21 + (1 : Int)) (10 : Int))))))))
  (h18 : y49 = (if (decide ((if (!(decide (y2 = (0 : Int)))) = true then y2 else (0 : Int)) = (0 : Int))) = true then (if (!(decide (y2 = (0 : Int)))) = true then (0 : Int) else y43) else x21))
  (i0 : 0 ≤ x21 ∧ x21 ≤ 10)
  : 0 ≤ y49 ∧ y49 ≤ 10 := by
  subst h18 h17 h16 h15 h14 h13 h12 h11 h10 h9 h8 h7 h6 h5 h4 h3 h2 h1 h0
  constructor <;> (repeat' (first | omega | split))
set_option maxHeartbeats 4000000 in
theorem vr_22 {f40_x13_ f41_x13_ f42_x13_ x0 x22 x23 y0 y1 y10 y11 y12 y13 y17 y2 y25 y3 y35 y44 y50 : Int} {g40_x13_ g41_x13_ g42_x13_ p20 p21 p22 q16 q20 q24 q28 q32 q39 : Bool}
  (h0 : y0 = (if (g40_x13_ && ((decide (f40_x13_ < (-1000000 : Int))) || (decide ((1000000 : Int) < f40_x13_)))) = true then (1 : Int) else (0 : Int)))
  (h1 : y1 = (if (((decide (y0 = (0 : Int))) && g41_x13_) && ((decide (f41_x13_ < (-1000000 : Int))) || (decide ((1000000 : Int) < f41_x13_)))) = true then (1 : Int) else y0))
  (h2 : y2 = (if (((decide (y1 = (0 : Int))) && g42_x13_) && ((decide (f42_x13_ < (-1000000 : Int))) || (decide ((1000000 : Int) < f42_x13_)))) = true then (1 : Int) else y1))
  (h3 : y3 = (min (max f40_x13_ f41_x13_) f42_x13_))
  (h4 : y10 = (IntKind.wrap .i64 (f42_x13_ - (max (min f40_x13_ f41_x13_) y3))))
  (h5 : y11 = (IntKind.wrap .i64 ((max (min f40_x13_ f41_x13_) y3) - f42_x13_)))
  (h6 : y12 = (if p22 = true then x22 else (if ((g42_x13_ && (decide (y10 ≤ x0))) && (decide (y11 ≤ x0))) = true then (0 : Int) else (min (x22 + (1 : Int)) (10 : Int)))))
  (h7 : y13 = ((IntKind.wrap .i64 (f40_x13_ + f41_x13_)) / (2 : Int)))
  (h8 : q16 = ((g42_x13_ && (decide ((IntKind.wrap .i64 (f42_x13_ - y13)) ≤ x0))) && (decide ((IntKind.wrap .i64 (y13 - f42_x13_)) ≤ x0))))
  (h9 : y17 = ((IntKind.wrap .i64 (f40_x13_ + f42_x13_)) / (2 : Int)))
  (h10 : q20 = ((g42_x13_ && (decide ((IntKind.wrap .i64 (f42_x13_ - y17)) ≤ x0))) && (decide ((IntKind.wrap .i64 (y17 - f42_x13_)) ≤ x0))))
  (h11 : q24 = ((g42_x13_ && (decide ((IntKind.wrap .i64 (f42_x13_ - f40_x13_)) ≤ x0))) && (decide ((IntKind.wrap .i64 (f40_x13_ - f42_x13_)) ≤ x0))))
  (h12 : y25 = ((IntKind.wrap .i64 (f41_x13_ + f42_x13_)) / (2 : Int)))
  (h13 : q28 = ((g42_x13_ && (decide ((IntKind.wrap .i64 (f42_x13_ - y25)) ≤ x0))) && (decide ((IntKind.wrap .i64 (y25 - f42_x13_)) ≤ x0))))
  (h14 : q32 = ((g42_x13_ && (decide ((IntKind.wrap .i64 (f42_x13_ - f41_x13_)) ≤ x0))) && (decide ((IntKind.wrap .i64 (f41_x13_ - f42_x13_)) ≤ x0))))
  (h15 : y35 = (if p22 = true then x22 else (if ((g42_x13_ && (decide ((IntKind.wrap .i64 (0 : Int)) ≤ x0))) && (decide ((IntKind.wrap .i64 (0 : Int)) ≤ x0))) = true then (0 : Int) else (min (x22 + (1 : Int)) (10 : Int)))))
  (h16 : q39 = ((g42_x13_ && (decide ((IntKind.wrap .i64 (f42_x13_ - x23)) ≤ x0))) && (decide ((IntKind.wrap .i64 (x23 - f42_x13_)) ≤ x0))))
  (h17 : y44 = (if (g40_x13_ && (!p20)) = true then (if (g41_x13_ && (!p21)) = true then (if (g42_x13_ && (!p22)) = true then y12 else (if p22 = true then x22 else (if q16 = true then (0 : Int) else (min (x22 + (1 : Int)) (10 : Int))))) else (if (g42_x13_ && (!p22)) = true then (if p22 = true then x22 else (if q20 = true then (0 : Int) else (min (x22 + (1 : Int)) (10 : Int)))) else (if p22 = true then x22 else (if q24 = true then (0 : Int) else (min (x22 + (1 : Int)) (10 : Int)))))) else (if (g41_x13_ && (!p21)) = true then (if (g42_x13_ && (!p22)) = true then (if p22 = true then x22 else (if q28 = true then (0 : Int) else (min (x22 + (1 : Int)) (10 : Int)))) else (if p22 = true then x22 else (if q32 = true then (0 : Int) else (min (x22 + (1 : Int)) (10 : Int))))) else (if (g42_x13_ && (!p22)) = true then y35 else (if p22 = true then x22 else (if q39 = true then (0 : Int) else (min (x22 + (1 : Int)) (10 : Int))))))))
  (h18 : y50 = (if (decide ((if (!(decide (y2 = (0 : Int)))) = true then y2 else (0 : Int)) = (0 : Int))) = true then (if (!(decide (y2 = (0 : Int)))) = true then (0 : Int) else y44) else x22))
  (i0 : 0 ≤ x22 ∧ x22 ≤ 10)
  : 0 ≤ y50 ∧ y50 ≤ 10 := by
  subst h18 h17 h16 h15 h14 h13 h12 h11 h10 h9 h8 h7 h6 h5 h4 h3 h2 h1 h0
  constructor <;> (repeat' (first | omega | split))
set_option maxHeartbeats 4000000 in
theorem vr_23 {f40_x13_ f41_x13_ f42_x13_ x23 y0 y1 y13 y17 y2 y25 y3 y40 y51 : Int} {g40_x13_ g41_x13_ g42_x13_ p20 p21 p22 : Bool}
  (h0 : y0 = (if (g40_x13_ && ((decide (f40_x13_ < (-1000000 : Int))) || (decide ((1000000 : Int) < f40_x13_)))) = true then (1 : Int) else (0 : Int)))
  (h1 : y1 = (if (((decide (y0 = (0 : Int))) && g41_x13_) && ((decide (f41_x13_ < (-1000000 : Int))) || (decide ((1000000 : Int) < f41_x13_)))) = true then (1 : Int) else y0))
  (h2 : y2 = (if (((decide (y1 = (0 : Int))) && g42_x13_) && ((decide (f42_x13_ < (-1000000 : Int))) || (decide ((1000000 : Int) < f42_x13_)))) = true then (1 : Int) else y1))
  (h3 : y3 = (min (max f40_x13_ f41_x13_) f42_x13_))
  (h4 : y13 = ((IntKind.wrap .i64 (f40_x13_ + f41_x13_)) / (2 : Int)))
  (h5 : y17 = ((IntKind.wrap .i64 (f40_x13_ + f42_x13_)) / (2 : Int)))
  (h6 : y25 = ((IntKind.wrap .i64 (f41_x13_ + f42_x13_)) / (2 : Int)))
  (h7 : y40 = (if (g40_x13_ && (!p20)) = true then (if (g41_x13_ && (!p21)) = true then (if (g42_x13_ && (!p22)) = true then (max (min f40_x13_ f41_x13_) y3) else y13) else (if (g42_x13_ && (!p22)) = true then y17 else f40_x13_)) else (if (g41_x13_ && (!p21)) = true then (if (g42_x13_ && (!p22)) = true then y25 else f41_x13_) else (if (g42_x13_ && (!p22)) = true then f42_x13_ else x23))))
  (h8 : y51 = (if (decide ((if (!(decide (y2 = (0 : Int)))) = true then y2 else (0 : Int)) = (0 : Int))) = true then (if (!(decide (y2 = (0 : Int)))) = true then (0 : Int) else y40) else x23))
  (i0 : -1000000 ≤ x23 ∧ x23 ≤ 1000000)
  : -1000000 ≤ y51 ∧ y51 ≤ 1000000 := by
  have w64 : ∀ n : Int, -9223372036854775808 ≤ n → n ≤ 9223372036854775807 → IntKind.wrap .i64 n = n := fun n h1 h2 => IntWalk.i64_in n ⟨h1, h2⟩
  subst h8 h7 h6 h5 h4 h3 h2 h1 h0
  cases p20 <;> cases p21 <;> cases p22 <;> cases g40_x13_ <;> cases g41_x13_ <;> cases g42_x13_ <;> simp only [Bool.true_and, Bool.false_and, Bool.and_true, Bool.and_false, Bool.false_eq_true, if_false, if_true, Bool.not_true, Bool.not_false, Bool.not_eq_true', decide_eq_true_eq, decide_eq_false_iff_not, Bool.or_eq_true, Bool.and_eq_true, ite_eq_left_iff, decide_true, decide_false] <;> (repeat' (first | omega | split)) <;> (try rw [w64 _ (by omega) (by omega)]) <;> (try omega)
end Go.Proofs.Ytdfpenjhpemokaa.Sx
