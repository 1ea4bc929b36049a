/-
  The law VoteSays: its parts, in plain numbers. Written by a program of ours (wip/dev/sx), but for the proofs.
-/
import Derived.Test.YtdfpenjhpemokaaSxPl
set_option linter.unusedVariables false
set_option linter.unusedSimpArgs false
namespace Go.Proofs.Ytdfpenjhpemokaa.Sx
set_option maxHeartbeats 4000000 in
theorem vote_p0 {y1 x4 x5 y32 : Int}
  (h0 : y1 = (if ((!((decide ((0 : Int) ≤ x4)) && (decide (x4 ≤ (1000000 : Int))))) || (!((decide ((1 : Int) ≤ x5)) && (decide (x5 ≤ (10 : Int)))))) = true then (1 : Int) else (0 : Int)))
  (h1 : y32 = (if ((((decide (x4 < (0 : Int))) || (decide ((1000000 : Int) < x4))) || (decide (x5 < (1 : Int)))) || (decide ((10 : Int) < x5))) = true then (1 : Int) else (0 : Int))) :
  (decide (y32 = y1)) = true := by
  grind
set_option maxHeartbeats 4000000 in
theorem vote_p1 {x3 x0 x1 x2 y33 : Int} {q2 : Bool}
  (h0 : q2 = (((((decide ((-1000000 : Int) ≤ x3)) && (decide (x3 ≤ (1000000 : Int)))) && ((decide ((0 : Int) ≤ x0)) && (decide (x0 ≤ (10 : Int))))) && ((decide ((0 : Int) ≤ x1)) && (decide (x1 ≤ (10 : Int))))) && ((decide ((0 : Int) ≤ x2)) && (decide (x2 ≤ (10 : Int))))))
  (h1 : y33 = (if ((decide (x0 < (0 : Int))) || (decide ((10 : Int) < x0))) = true then (3 : Int) else (if ((decide (x1 < (0 : Int))) || (decide ((10 : Int) < x1))) = true then (3 : Int) else (if ((decide (x2 < (0 : Int))) || (decide ((10 : Int) < x2))) = true then (3 : Int) else (if ((decide (x3 < (-1000000 : Int))) || (decide ((1000000 : Int) < x3))) = true then (3 : Int) else (0 : Int)))))) :
  (decide (y33 = (if (!q2) = true then (3 : Int) else (0 : Int)))) = true := by
  grind
set_option maxHeartbeats 4000000 in
theorem vote_p2 {y1 x4 x5 x3 x0 x1 x2 y3 y5 x6 y6 y8 x7 y9 y11 x8 y12 y32 y33 y34 y35 y36 : Int} {q2 p3 p4 p5 : Bool}
  (h0 : y1 = (if ((!((decide ((0 : Int) ≤ x4)) && (decide (x4 ≤ (1000000 : Int))))) || (!((decide ((1 : Int) ≤ x5)) && (decide (x5 ≤ (10 : Int)))))) = true then (1 : Int) else (0 : Int)))
  (h1 : q2 = (((((decide ((-1000000 : Int) ≤ x3)) && (decide (x3 ≤ (1000000 : Int)))) && ((decide ((0 : Int) ≤ x0)) && (decide (x0 ≤ (10 : Int))))) && ((decide ((0 : Int) ≤ x1)) && (decide (x1 ≤ (10 : Int))))) && ((decide ((0 : Int) ≤ x2)) && (decide (x2 ≤ (10 : Int))))))
  (h2 : y3 = (if (!(decide (y1 = (0 : Int)))) = true then y1 else (if (!(decide ((if (!q2) = true then (3 : Int) else (0 : Int)) = (0 : Int)))) = true then (if (!q2) = true then (3 : Int) else (0 : Int)) else (0 : Int))))
  (h3 : y5 = (if (p3 && (!((decide ((-1000000 : Int) ≤ x6)) && (decide (x6 ≤ (1000000 : Int)))))) = true then (1 : Int) else (0 : Int)))
  (h4 : y6 = (if (!(decide (y3 = (0 : Int)))) = true then y3 else (if (!(decide (y5 = (0 : Int)))) = true then y5 else (0 : Int))))
  (h5 : y8 = (if (p4 && (!((decide ((-1000000 : Int) ≤ x7)) && (decide (x7 ≤ (1000000 : Int)))))) = true then (1 : Int) else (0 : Int)))
  (h6 : y9 = (if (!(decide (y6 = (0 : Int)))) = true then y6 else (if (!(decide (y8 = (0 : Int)))) = true then y8 else (0 : Int))))
  (h7 : y11 = (if (p5 && (!((decide ((-1000000 : Int) ≤ x8)) && (decide (x8 ≤ (1000000 : Int)))))) = true then (1 : Int) else (0 : Int)))
  (h8 : y12 = (if (!(decide (y9 = (0 : Int)))) = true then y9 else (if (!(decide (y11 = (0 : Int)))) = true then y11 else (0 : Int))))
  (h9 : y32 = (if ((((decide (x4 < (0 : Int))) || (decide ((1000000 : Int) < x4))) || (decide (x5 < (1 : Int)))) || (decide ((10 : Int) < x5))) = true then (1 : Int) else (0 : Int)))
  (h10 : y33 = (if ((decide (x0 < (0 : Int))) || (decide ((10 : Int) < x0))) = true then (3 : Int) else (if ((decide (x1 < (0 : Int))) || (decide ((10 : Int) < x1))) = true then (3 : Int) else (if ((decide (x2 < (0 : Int))) || (decide ((10 : Int) < x2))) = true then (3 : Int) else (if ((decide (x3 < (-1000000 : Int))) || (decide ((1000000 : Int) < x3))) = true then (3 : Int) else (0 : Int))))))
  (h11 : y34 = (if (((decide ((if (decide (y32 = (0 : Int))) = true then y33 else y32) = (0 : Int))) && p3) && ((decide (x6 < (-1000000 : Int))) || (decide ((1000000 : Int) < x6)))) = true then (1 : Int) else (if (decide (y32 = (0 : Int))) = true then y33 else y32)))
  (h12 : y35 = (if (((decide (y34 = (0 : Int))) && p4) && ((decide (x7 < (-1000000 : Int))) || (decide ((1000000 : Int) < x7)))) = true then (1 : Int) else y34))
  (h13 : y36 = (if (((decide (y35 = (0 : Int))) && p5) && ((decide (x8 < (-1000000 : Int))) || (decide ((1000000 : Int) < x8)))) = true then (1 : Int) else y35)) :
  (decide ((if (!(decide (y36 = (0 : Int)))) = true then y36 else (0 : Int)) = y12)) = true := by
  cases p3 <;> cases p4 <;> cases p5 <;> simp only [Bool.true_and, Bool.false_and, Bool.and_true, Bool.and_false, Bool.false_eq_true, if_false, Bool.not_eq_true', decide_eq_true_eq, decide_eq_false_iff_not, Bool.or_eq_true, Bool.and_eq_true] at * <;> grind
set_option maxHeartbeats 4000000 in
theorem vote_p3 {y14 x6 x7 y15 y16 y17 y18 x8 y19 y20 y21 y22 x3 y23 y24 y25 x4 x0 y37 y38 y39 y47 y53 y58 y64 y69 y74 y79 y87 y36 y12 x1 x2 x5 : Int} {p4 p1 p3 p0 p5 p2 q46 q52 q63 : Bool}
  (h0 : y14 = (if (p4 && (!p1)) = true then (IntKind.wrap .i64 ((if (p3 && (!p0)) = true then x6 else (0 : Int)) + x7)) else (if (p3 && (!p0)) = true then x6 else (0 : Int))))
  (h1 : y15 = (if (p4 && (!p1)) = true then ((if (p3 && (!p0)) = true then (1 : Int) else (0 : Int)) + (1 : Int)) else (if (p3 && (!p0)) = true then (1 : Int) else (0 : Int))))
  (h2 : y16 = (if (p4 && (!p1)) = true then (max (if (p3 && (!p0)) = true then (max (-2147483647 : Int) x6) else (-2147483647 : Int)) x7) else (if (p3 && (!p0)) = true then (max (-2147483647 : Int) x6) else (-2147483647 : Int))))
  (h3 : y17 = (if (p4 && (!p1)) = true then (min (if (p3 && (!p0)) = true then (min (2147483647 : Int) x6) else (2147483647 : Int)) x7) else (if (p3 && (!p0)) = true then (min (2147483647 : Int) x6) else (2147483647 : Int))))
  (h4 : y18 = (Int.tmod (if (p5 && (!p2)) = true then (IntKind.wrap .i64 (y14 + x8)) else y14) (2 : Int)))
  (h5 : y19 = (IntKind.wrap .i64 ((if (p5 && (!p2)) = true then (IntKind.wrap .i64 (y14 + x8)) else y14) - (if (decide (y18 < (0 : Int))) = true then (1 : Int) else y18))))
  (h6 : y20 = (IntKind.wrap .i64 ((if (p5 && (!p2)) = true then (IntKind.wrap .i64 (y14 + x8)) else y14) - (if (p5 && (!p2)) = true then (min y17 x8) else y17))))
  (h7 : y21 = (IntKind.wrap .i64 (y20 - (if (p5 && (!p2)) = true then (max y16 x8) else y16))))
  (h8 : y22 = (if (decide ((if (p5 && (!p2)) = true then (y15 + (1 : Int)) else y15) = (3 : Int))) = true then y21 else x3))
  (h9 : y23 = (if (decide ((if (p5 && (!p2)) = true then (y15 + (1 : Int)) else y15) = (2 : Int))) = true then (Int.tdiv y19 (2 : Int)) else y22))
  (h10 : y24 = (if (decide ((if (p5 && (!p2)) = true then (y15 + (1 : Int)) else y15) = (1 : Int))) = true then (if (p5 && (!p2)) = true then (IntKind.wrap .i64 (y14 + x8)) else y14) else y23))
  (h11 : y25 = (if (p3 && ((decide ((IntKind.wrap .i64 (y24 - x4)) ≤ x6)) && (decide (x6 ≤ (IntKind.wrap .i64 (y24 + x4)))))) = true then (0 : Int) else (min (IntKind.wrap .i64 (x0 + (1 : Int))) (10 : Int))))
  (h12 : y37 = (IntKind.wrap .i64 (x6 - (max (min x6 x7) (min (max x6 x7) x8)))))
  (h13 : y38 = (IntKind.wrap .i64 ((max (min x6 x7) (min (max x6 x7) x8)) - x6)))
  (h14 : y39 = (if p0 = true then x0 else (if ((p3 && (decide (y37 ≤ x4))) && (decide (y38 ≤ x4))) = true then (0 : Int) else (min (IntKind.wrap .i64 (x0 + (1 : Int))) (10 : Int)))))
  (h15 : q46 = ((p3 && (decide ((IntKind.wrap .i64 (x6 - ((IntKind.wrap .i64 (x6 + x7)) / (2 : Int)))) ≤ x4))) && (decide ((IntKind.wrap .i64 (((IntKind.wrap .i64 (x6 + x7)) / (2 : Int)) - x6)) ≤ x4))))
  (h16 : y47 = (if p0 = true then x0 else (if q46 = true then (0 : Int) else (min (IntKind.wrap .i64 (x0 + (1 : Int))) (10 : Int)))))
  (h17 : q52 = ((p3 && (decide ((IntKind.wrap .i64 (x6 - ((IntKind.wrap .i64 (x6 + x8)) / (2 : Int)))) ≤ x4))) && (decide ((IntKind.wrap .i64 (((IntKind.wrap .i64 (x6 + x8)) / (2 : Int)) - x6)) ≤ x4))))
  (h18 : y53 = (if p0 = true then x0 else (if q52 = true then (0 : Int) else (min (IntKind.wrap .i64 (x0 + (1 : Int))) (10 : Int)))))
  (h19 : y58 = (if p0 = true then x0 else (if ((p3 && (decide ((IntKind.wrap .i64 (0 : Int)) ≤ x4))) && (decide ((IntKind.wrap .i64 (0 : Int)) ≤ x4))) = true then (0 : Int) else (min (IntKind.wrap .i64 (x0 + (1 : Int))) (10 : Int)))))
  (h20 : q63 = ((p3 && (decide ((IntKind.wrap .i64 (x6 - ((IntKind.wrap .i64 (x7 + x8)) / (2 : Int)))) ≤ x4))) && (decide ((IntKind.wrap .i64 (((IntKind.wrap .i64 (x7 + x8)) / (2 : Int)) - x6)) ≤ x4))))
  (h21 : y64 = (if p0 = true then x0 else (if q63 = true then (0 : Int) else (min (IntKind.wrap .i64 (x0 + (1 : Int))) (10 : Int)))))
  (h22 : y69 = (if p0 = true then x0 else (if ((p3 && (decide ((IntKind.wrap .i64 (x6 - x7)) ≤ x4))) && (decide ((IntKind.wrap .i64 (x7 - x6)) ≤ x4))) = true then (0 : Int) else (min (IntKind.wrap .i64 (x0 + (1 : Int))) (10 : Int)))))
  (h23 : y74 = (if p0 = true then x0 else (if ((p3 && (decide ((IntKind.wrap .i64 (x6 - x8)) ≤ x4))) && (decide ((IntKind.wrap .i64 (x8 - x6)) ≤ x4))) = true then (0 : Int) else (min (IntKind.wrap .i64 (x0 + (1 : Int))) (10 : Int)))))
  (h24 : y79 = (if p0 = true then x0 else (if ((p3 && (decide ((IntKind.wrap .i64 (x6 - x3)) ≤ x4))) && (decide ((IntKind.wrap .i64 (x3 - x6)) ≤ x4))) = true then (0 : Int) else (min (IntKind.wrap .i64 (x0 + (1 : Int))) (10 : Int)))))
  (h25 : y87 = (if (p3 && (!p0)) = true then (if (p4 && (!p1)) = true then (if (p5 && (!p2)) = true then y39 else y47) else (if (p5 && (!p2)) = true then y53 else y58)) else (if (p4 && (!p1)) = true then (if (p5 && (!p2)) = true then y64 else y69) else (if (p5 && (!p2)) = true then y74 else y79))))
  (hz : y12 = 0) (he : y36 = 0) (v0 : 0 ≤ x0) (v1 : x0 ≤ 10) (v2 : 0 ≤ x1) (v3 : x1 ≤ 10) (v4 : 0 ≤ x2) (v5 : x2 ≤ 10) (v6 : -1000000 ≤ x3) (v7 : x3 ≤ 1000000) (v8 : 0 ≤ x4) (v9 : x4 ≤ 1000000) (v10 : 1 ≤ x5) (v11 : x5 ≤ 10)
  (v12 : p3 = true → -1000000 ≤ x6 ∧ x6 ≤ 1000000) (v13 : p4 = true → -1000000 ≤ x7 ∧ x7 ≤ 1000000) (v14 : p5 = true → -1000000 ≤ x8 ∧ x8 ≤ 1000000) :
  (decide ((if (!(decide (y36 = (0 : Int)))) = true then (0 : Int) else y87) = (if (decide (y12 = (0 : Int))) = true then (if p0 = true then x0 else y25) else (0 : Int)))) = true := by
  subst h25 h24 h23 h22 h21 h20 h19 h18 h17 h16 h15 h14 h13 h12 h11 h10 h9 h8 h7 h6 h5 h4 h3 h2 h1 h0
  simp only [ifNot, hz, he, tdiv2, tmod2, decide_eq_true_eq, decide_true, Bool.not_true, Bool.false_eq_true, if_false, if_true]
  clear hz he
  cases p0 <;> cases p1 <;> cases p2 <;> cases p3 <;> cases p4 <;> cases p5 <;> (try simp only [Bool.true_and, Bool.false_and, Bool.and_true, Bool.and_false, Bool.false_eq_true, if_false, if_true, Bool.not_true, Bool.not_false, Bool.not_eq_true', decide_eq_true_eq, decide_eq_false_iff_not, Bool.or_eq_true, Bool.and_eq_true, Bool.false_or, Bool.true_or, Bool.or_false, Bool.or_true, false_or, true_or, true_implies, forall_const, false_implies, Int.reduceAdd, Int.reduceEq, decide_true, decide_false] at *) <;> (try simp (disch := omega) only [wrap64']) <;> (try omega) <;> (try simp only [Bool.and_eq_true, Bool.not_eq_true', Bool.and_eq_false_iff, decide_eq_true_eq, decide_eq_false_iff_not]) <;> (try omega) <;> grind
theorem vote_n3 {y36 y87 y12 x0 y25 : Int} {p0 : Bool}
  (hz : ¬ y12 = 0) (he : ¬ y36 = 0) :
  (decide ((if (!(decide (y36 = (0 : Int)))) = true then (0 : Int) else y87) = (if (decide (y12 = (0 : Int))) = true then (if p0 = true then x0 else y25) else (0 : Int)))) = true := by
  grind
set_option maxHeartbeats 4000000 in
theorem vote_p4 {y14 x6 x7 y15 y16 y17 y18 x8 y19 y20 y21 y22 x3 y23 y24 y27 x4 x1 y40 y41 y42 y49 y55 y59 y66 y71 y76 y81 y88 y36 y12 x0 x2 x5 : Int} {p4 p1 p3 p0 p5 p2 q48 q54 q65 : Bool}
  (h0 : y14 = (if (p4 && (!p1)) = true then (IntKind.wrap .i64 ((if (p3 && (!p0)) = true then x6 else (0 : Int)) + x7)) else (if (p3 && (!p0)) = true then x6 else (0 : Int))))
  (h1 : y15 = (if (p4 && (!p1)) = true then ((if (p3 && (!p0)) = true then (1 : Int) else (0 : Int)) + (1 : Int)) else (if (p3 && (!p0)) = true then (1 : Int) else (0 : Int))))
  (h2 : y16 = (if (p4 && (!p1)) = true then (max (if (p3 && (!p0)) = true then (max (-2147483647 : Int) x6) else (-2147483647 : Int)) x7) else (if (p3 && (!p0)) = true then (max (-2147483647 : Int) x6) else (-2147483647 : Int))))
  (h3 : y17 = (if (p4 && (!p1)) = true then (min (if (p3 && (!p0)) = true then (min (2147483647 : Int) x6) else (2147483647 : Int)) x7) else (if (p3 && (!p0)) = true then (min (2147483647 : Int) x6) else (2147483647 : Int))))
  (h4 : y18 = (Int.tmod (if (p5 && (!p2)) = true then (IntKind.wrap .i64 (y14 + x8)) else y14) (2 : Int)))
  (h5 : y19 = (IntKind.wrap .i64 ((if (p5 && (!p2)) = true then (IntKind.wrap .i64 (y14 + x8)) else y14) - (if (decide (y18 < (0 : Int))) = true then (1 : Int) else y18))))
  (h6 : y20 = (IntKind.wrap .i64 ((if (p5 && (!p2)) = true then (IntKind.wrap .i64 (y14 + x8)) else y14) - (if (p5 && (!p2)) = true then (min y17 x8) else y17))))
  (h7 : y21 = (IntKind.wrap .i64 (y20 - (if (p5 && (!p2)) = true then (max y16 x8) else y16))))
  (h8 : y22 = (if (decide ((if (p5 && (!p2)) = true then (y15 + (1 : Int)) else y15) = (3 : Int))) = true then y21 else x3))
  (h9 : y23 = (if (decide ((if (p5 && (!p2)) = true then (y15 + (1 : Int)) else y15) = (2 : Int))) = true then (Int.tdiv y19 (2 : Int)) else y22))
  (h10 : y24 = (if (decide ((if (p5 && (!p2)) = true then (y15 + (1 : Int)) else y15) = (1 : Int))) = true then (if (p5 && (!p2)) = true then (IntKind.wrap .i64 (y14 + x8)) else y14) else y23))
  (h11 : y27 = (if (p4 && ((decide ((IntKind.wrap .i64 (y24 - x4)) ≤ x7)) && (decide (x7 ≤ (IntKind.wrap .i64 (y24 + x4)))))) = true then (0 : Int) else (min (IntKind.wrap .i64 (x1 + (1 : Int))) (10 : Int))))
  (h12 : y40 = (IntKind.wrap .i64 (x7 - (max (min x6 x7) (min (max x6 x7) x8)))))
  (h13 : y41 = (IntKind.wrap .i64 ((max (min x6 x7) (min (max x6 x7) x8)) - x7)))
  (h14 : y42 = (if p1 = true then x1 else (if ((p4 && (decide (y40 ≤ x4))) && (decide (y41 ≤ x4))) = true then (0 : Int) else (min (IntKind.wrap .i64 (x1 + (1 : Int))) (10 : Int)))))
  (h15 : q48 = ((p4 && (decide ((IntKind.wrap .i64 (x7 - ((IntKind.wrap .i64 (x6 + x7)) / (2 : Int)))) ≤ x4))) && (decide ((IntKind.wrap .i64 (((IntKind.wrap .i64 (x6 + x7)) / (2 : Int)) - x7)) ≤ x4))))
  (h16 : y49 = (if p1 = true then x1 else (if q48 = true then (0 : Int) else (min (IntKind.wrap .i64 (x1 + (1 : Int))) (10 : Int)))))
  (h17 : q54 = ((p4 && (decide ((IntKind.wrap .i64 (x7 - ((IntKind.wrap .i64 (x6 + x8)) / (2 : Int)))) ≤ x4))) && (decide ((IntKind.wrap .i64 (((IntKind.wrap .i64 (x6 + x8)) / (2 : Int)) - x7)) ≤ x4))))
  (h18 : y55 = (if p1 = true then x1 else (if q54 = true then (0 : Int) else (min (IntKind.wrap .i64 (x1 + (1 : Int))) (10 : Int)))))
  (h19 : y59 = (if p1 = true then x1 else (if ((p4 && (decide ((IntKind.wrap .i64 (x7 - x6)) ≤ x4))) && (decide ((IntKind.wrap .i64 (x6 - x7)) ≤ x4))) = true then (0 : Int) else (min (IntKind.wrap .i64 (x1 + (1 : Int))) (10 : Int)))))
  (h20 : q65 = ((p4 && (decide ((IntKind.wrap .i64 (x7 - ((IntKind.wrap .i64 (x7 + x8)) / (2 : Int)))) ≤ x4))) && (decide ((IntKind.wrap .i64 (((IntKind.wrap .i64 (x7 + x8)) / (2 : Int)) - x7)) ≤ x4))))
  (h21 : y66 = (if p1 = true then x1 else (if q65 = true then (0 : Int) else (min (IntKind.wrap .i64 (x1 + (1 : Int))) (10 : Int)))))
  (h22 : y71 = (if p1 = true then x1 else (if ((p4 && (decide ((IntKind.wrap .i64 (0 : Int)) ≤ x4))) && (decide ((IntKind.wrap .i64 (0 : Int)) ≤ x4))) = true then (0 : Int) else (min (IntKind.wrap .i64 (x1 + (1 : Int))) (10 : Int)))))
  (h23 : y76 = (if p1 = true then x1 else (if ((p4 && (decide ((IntKind.wrap .i64 (x7 - x8)) ≤ x4))) && (decide ((IntKind.wrap .i64 (x8 - x7)) ≤ x4))) = true then (0 : Int) else (min (IntKind.wrap .i64 (x1 + (1 : Int))) (10 : Int)))))
  (h24 : y81 = (if p1 = true then x1 else (if ((p4 && (decide ((IntKind.wrap .i64 (x7 - x3)) ≤ x4))) && (decide ((IntKind.wrap .i64 (x3 - x7)) ≤ x4))) = true then (0 : Int) else (min (IntKind.wrap .i64 (x1 + (1 : Int))) (10 : Int)))))
  (h25 : y88 = (if (p3 && (!p0)) = true then (if (p4 && (!p1)) = true then (if (p5 && (!p2)) = true then y42 else y49) else (if (p5 && (!p2)) = true then y55 else y59)) else (if (p4 && (!p1)) = true then (if (p5 && (!p2)) = true then y66 else y71) else (if (p5 && (!p2)) = true then y76 else y81))))
  (hz : y12 = 0) (he : y36 = 0) (v0 : 0 ≤ x0) (v1 : x0 ≤ 10) (v2 : 0 ≤ x1) (v3 : x1 ≤ 10) (v4 : 0 ≤ x2) (v5 : x2 ≤ 10) (v6 : -1000000 ≤ x3) (v7 : x3 ≤ 1000000) (v8 : 0 ≤ x4) (v9 : x4 ≤ 1000000) (v10 : 1 ≤ x5) (v11 : x5 ≤ 10)
  (v12 : p3 = true → -1000000 ≤ x6 ∧ x6 ≤ 1000000) (v13 : p4 = true → -1000000 ≤ x7 ∧ x7 ≤ 1000000) (v14 : p5 = true → -1000000 ≤ x8 ∧ x8 ≤ 1000000) :
  (decide ((if (!(decide (y36 = (0 : Int)))) = true then (0 : Int) else y88) = (if (decide (y12 = (0 : Int))) = true then (if p1 = true then x1 else y27) else (0 : Int)))) = true := by
  subst h25 h24 h23 h22 h21 h20 h19 h18 h17 h16 h15 h14 h13 h12 h11 h10 h9 h8 h7 h6 h5 h4 h3 h2 h1 h0
  simp only [ifNot, hz, he, tdiv2, tmod2, decide_eq_true_eq, decide_true, Bool.not_true, Bool.false_eq_true, if_false, if_true]
  clear hz he
  cases p0 <;> cases p1 <;> cases p2 <;> cases p3 <;> cases p4 <;> cases p5 <;> (try simp only [Bool.true_and, Bool.false_and, Bool.and_true, Bool.and_false, Bool.false_eq_true, if_false, if_true, Bool.not_true, Bool.not_false, Bool.not_eq_true', decide_eq_true_eq, decide_eq_false_iff_not, Bool.or_eq_true, Bool.and_eq_true, Bool.false_or, Bool.true_or, Bool.or_false, Bool.or_true, false_or, true_or, true_implies, forall_const, false_implies, Int.reduceAdd, Int.reduceEq, decide_true, decide_false] at *) <;> (try simp (disch := omega) only [wrap64']) <;> (try omega) <;> (try simp only [Bool.and_eq_true, Bool.not_eq_true', Bool.and_eq_false_iff, decide_eq_true_eq, decide_eq_false_iff_not]) <;> (try omega) <;> grind
theorem vote_n4 {y36 y88 y12 x1 y27 : Int} {p1 : Bool}
  (hz : ¬ y12 = 0) (he : ¬ y36 = 0) :
  (decide ((if (!(decide (y36 = (0 : Int)))) = true then (0 : Int) else y88) = (if (decide (y12 = (0 : Int))) = true then (if p1 = true then x1 else y27) else (0 : Int)))) = true := by
  grind
set_option maxHeartbeats 4000000 in
theorem vote_p5 {y14 x6 x7 y15 y16 y17 y18 x8 y19 y20 y21 y22 x3 y23 y24 y29 x4 x2 y43 y44 y45 y51 y57 y61 y68 y72 y78 y83 y89 y36 y12 x0 x1 x5 : Int} {p4 p1 p3 p0 p5 p2 q50 q56 q67 : Bool}
  (h0 : y14 = (if (p4 && (!p1)) = true then (IntKind.wrap .i64 ((if (p3 && (!p0)) = true then x6 else (0 : Int)) + x7)) else (if (p3 && (!p0)) = true then x6 else (0 : Int))))
  (h1 : y15 = (if (p4 && (!p1)) = true then ((if (p3 && (!p0)) = true then (1 : Int) else (0 : Int)) + (1 : Int)) else (if (p3 && (!p0)) = true then (1 : Int) else (0 : Int))))
  (h2 : y16 = (if (p4 && (!p1)) = true then (max (if (p3 && (!p0)) = true then (max (-2147483647 : Int) x6) else (-2147483647 : Int)) x7) else (if (p3 && (!p0)) = true then (max (-2147483647 : Int) x6) else (-2147483647 : Int))))
  (h3 : y17 = (if (p4 && (!p1)) = true then (min (if (p3 && (!p0)) = true then (min (2147483647 : Int) x6) else (2147483647 : Int)) x7) else (if (p3 && (!p0)) = true then (min (2147483647 : Int) x6) else (2147483647 : Int))))
  (h4 : y18 = (Int.tmod (if (p5 && (!p2)) = true then (IntKind.wrap .i64 (y14 + x8)) else y14) (2 : Int)))
  (h5 : y19 = (IntKind.wrap .i64 ((if (p5 && (!p2)) = true then (IntKind.wrap .i64 (y14 + x8)) else y14) - (if (decide (y18 < (0 : Int))) = true then (1 : Int) else y18))))
  (h6 : y20 = (IntKind.wrap .i64 ((if (p5 && (!p2)) = true then (IntKind.wrap .i64 (y14 + x8)) else y14) - (if (p5 && (!p2)) = true then (min y17 x8) else y17))))
  (h7 : y21 = (IntKind.wrap .i64 (y20 - (if (p5 && (!p2)) = true then (max y16 x8) else y16))))
  (h8 : y22 = (if (decide ((if (p5 && (!p2)) = true then (y15 + (1 : Int)) else y15) = (3 : Int))) = true then y21 else x3))
  (h9 : y23 = (if (decide ((if (p5 && (!p2)) = true then (y15 + (1 : Int)) else y15) = (2 : Int))) = true then (Int.tdiv y19 (2 : Int)) else y22))
  (h10 : y24 = (if (decide ((if (p5 && (!p2)) = true then (y15 + (1 : Int)) else y15) = (1 : Int))) = true then (if (p5 && (!p2)) = true then (IntKind.wrap .i64 (y14 + x8)) else y14) else y23))
  (h11 : y29 = (if (p5 && ((decide ((IntKind.wrap .i64 (y24 - x4)) ≤ x8)) && (decide (x8 ≤ (IntKind.wrap .i64 (y24 + x4)))))) = true then (0 : Int) else (min (IntKind.wrap .i64 (x2 + (1 : Int))) (10 : Int))))
  (h12 : y43 = (IntKind.wrap .i64 (x8 - (max (min x6 x7) (min (max x6 x7) x8)))))
  (h13 : y44 = (IntKind.wrap .i64 ((max (min x6 x7) (min (max x6 x7) x8)) - x8)))
  (h14 : y45 = (if p2 = true then x2 else (if ((p5 && (decide (y43 ≤ x4))) && (decide (y44 ≤ x4))) = true then (0 : Int) else (min (IntKind.wrap .i64 (x2 + (1 : Int))) (10 : Int)))))
  (h15 : q50 = ((p5 && (decide ((IntKind.wrap .i64 (x8 - ((IntKind.wrap .i64 (x6 + x7)) / (2 : Int)))) ≤ x4))) && (decide ((IntKind.wrap .i64 (((IntKind.wrap .i64 (x6 + x7)) / (2 : Int)) - x8)) ≤ x4))))
  (h16 : y51 = (if p2 = true then x2 else (if q50 = true then (0 : Int) else (min (IntKind.wrap .i64 (x2 + (1 : Int))) (10 : Int)))))
  (h17 : q56 = ((p5 && (decide ((IntKind.wrap .i64 (x8 - ((IntKind.wrap .i64 (x6 + x8)) / (2 : Int)))) ≤ x4))) && (decide ((IntKind.wrap .i64 (((IntKind.wrap .i64 (x6 + x8)) / (2 : Int)) - x8)) ≤ x4))))
  (h18 : y57 = (if p2 = true then x2 else (if q56 = true then (0 : Int) else (min (IntKind.wrap .i64 (x2 + (1 : Int))) (10 : Int)))))
  (h19 : y61 = (if p2 = true then x2 else (if ((p5 && (decide ((IntKind.wrap .i64 (x8 - x6)) ≤ x4))) && (decide ((IntKind.wrap .i64 (x6 - x8)) ≤ x4))) = true then (0 : Int) else (min (IntKind.wrap .i64 (x2 + (1 : Int))) (10 : Int)))))
  (h20 : q67 = ((p5 && (decide ((IntKind.wrap .i64 (x8 - ((IntKind.wrap .i64 (x7 + x8)) / (2 : Int)))) ≤ x4))) && (decide ((IntKind.wrap .i64 (((IntKind.wrap .i64 (x7 + x8)) / (2 : Int)) - x8)) ≤ x4))))
  (h21 : y68 = (if p2 = true then x2 else (if q67 = true then (0 : Int) else (min (IntKind.wrap .i64 (x2 + (1 : Int))) (10 : Int)))))
  (h22 : y72 = (if p2 = true then x2 else (if ((p5 && (decide ((IntKind.wrap .i64 (x8 - x7)) ≤ x4))) && (decide ((IntKind.wrap .i64 (x7 - x8)) ≤ x4))) = true then (0 : Int) else (min (IntKind.wrap .i64 (x2 + (1 : Int))) (10 : Int)))))
  (h23 : y78 = (if p2 = true then x2 else (if ((p5 && (decide ((IntKind.wrap .i64 (0 : Int)) ≤ x4))) && (decide ((IntKind.wrap .i64 (0 : Int)) ≤ x4))) = true then (0 : Int) else (min (IntKind.wrap .i64 (x2 + (1 : Int))) (10 : Int)))))
  (h24 : y83 = (if p2 = true then x2 else (if ((p5 && (decide ((IntKind.wrap .i64 (x8 - x3)) ≤ x4))) && (decide ((IntKind.wrap .i64 (x3 - x8)) ≤ x4))) = true then (0 : Int) else (min (IntKind.wrap .i64 (x2 + (1 : Int))) (10 : Int)))))
  (h25 : y89 = (if (p3 && (!p0)) = true then (if (p4 && (!p1)) = true then (if (p5 && (!p2)) = true then y45 else y51) else (if (p5 && (!p2)) = true then y57 else y61)) else (if (p4 && (!p1)) = true then (if (p5 && (!p2)) = true then y68 else y72) else (if (p5 && (!p2)) = true then y78 else y83))))
  (hz : y12 = 0) (he : y36 = 0) (v0 : 0 ≤ x0) (v1 : x0 ≤ 10) (v2 : 0 ≤ x1) (v3 : x1 ≤ 10) (v4 : 0 ≤ x2) (v5 : x2 ≤ 10) (v6 : -1000000 ≤ x3) (v7 : x3 ≤ 1000000) (v8 : 0 ≤ x4) (v9 : x4 ≤ 1000000) (v10 : 1 ≤ x5) (v11 : x5 ≤ 10)
  (v12 : p3 = true → -1000000 ≤ x6 ∧ x6 ≤ 1000000) (v13 : p4 = true → -1000000 ≤ x7 ∧ x7 ≤ 1000000) (v14 : p5 = true → -1000000 ≤ x8 ∧ x8 ≤ 1000000) :
  (decide ((if (!(decide (y36 = (0 : Int)))) = true then (0 : Int) else y89) = (if (decide (y12 = (0 : Int))) = true then (if p2 = true then x2 else y29) else (0 : Int)))) = true := by
  subst h25 h24 h23 h22 h21 h20 h19 h18 h17 h16 h15 h14 h13 h12 h11 h10 h9 h8 h7 h6 h5 h4 h3 h2 h1 h0
  simp only [ifNot, hz, he, tdiv2, tmod2, decide_eq_true_eq, decide_true, Bool.not_true, Bool.false_eq_true, if_false, if_true]
  clear hz he
  cases p0 <;> cases p1 <;> cases p2 <;> cases p3 <;> cases p4 <;> cases p5 <;> (try simp only [Bool.true_and, Bool.false_and, Bool.and_true, Bool.and_false, Bool.false_eq_true, if_false, if_true, Bool.not_true, Bool.not_false, Bool.not_eq_true', decide_eq_true_eq, decide_eq_false_iff_not, Bool.or_eq_true, Bool.and_eq_true, Bool.false_or, Bool.true_or, Bool.or_false, Bool.or_true, false_or, true_or, true_implies, forall_const, false_implies, Int.reduceAdd, Int.reduceEq, decide_true, decide_false] at *) <;> (try simp (disch := omega) only [wrap64']) <;> (try omega) <;> (try simp only [Bool.and_eq_true, Bool.not_eq_true', Bool.and_eq_false_iff, decide_eq_true_eq, decide_eq_false_iff_not]) <;> (try omega) <;> grind
theorem vote_n5 {y36 y89 y12 x2 y29 : Int} {p2 : Bool}
  (hz : ¬ y12 = 0) (he : ¬ y36 = 0) :
  (decide ((if (!(decide (y36 = (0 : Int)))) = true then (0 : Int) else y89) = (if (decide (y12 = (0 : Int))) = true then (if p2 = true then x2 else y29) else (0 : Int)))) = true := by
  grind
set_option maxHeartbeats 4000000 in
theorem vote_p6 {y14 x6 x7 y15 y16 y17 y18 x8 y19 y20 y21 y22 x3 y23 y24 x4 x5 x0 y37 y38 y36 y12 x1 x2 : Int} {p4 p1 p3 p0 p5 p2 q26 q46 q52 q63 q70 q75 q80 q90 : Bool}
  (h0 : y14 = (if (p4 && (!p1)) = true then (IntKind.wrap .i64 ((if (p3 && (!p0)) = true then x6 else (0 : Int)) + x7)) else (if (p3 && (!p0)) = true then x6 else (0 : Int))))
  (h1 : y15 = (if (p4 && (!p1)) = true then ((if (p3 && (!p0)) = true then (1 : Int) else (0 : Int)) + (1 : Int)) else (if (p3 && (!p0)) = true then (1 : Int) else (0 : Int))))
  (h2 : y16 = (if (p4 && (!p1)) = true then (max (if (p3 && (!p0)) = true then (max (-2147483647 : Int) x6) else (-2147483647 : Int)) x7) else (if (p3 && (!p0)) = true then (max (-2147483647 : Int) x6) else (-2147483647 : Int))))
  (h3 : y17 = (if (p4 && (!p1)) = true then (min (if (p3 && (!p0)) = true then (min (2147483647 : Int) x6) else (2147483647 : Int)) x7) else (if (p3 && (!p0)) = true then (min (2147483647 : Int) x6) else (2147483647 : Int))))
  (h4 : y18 = (Int.tmod (if (p5 && (!p2)) = true then (IntKind.wrap .i64 (y14 + x8)) else y14) (2 : Int)))
  (h5 : y19 = (IntKind.wrap .i64 ((if (p5 && (!p2)) = true then (IntKind.wrap .i64 (y14 + x8)) else y14) - (if (decide (y18 < (0 : Int))) = true then (1 : Int) else y18))))
  (h6 : y20 = (IntKind.wrap .i64 ((if (p5 && (!p2)) = true then (IntKind.wrap .i64 (y14 + x8)) else y14) - (if (p5 && (!p2)) = true then (min y17 x8) else y17))))
  (h7 : y21 = (IntKind.wrap .i64 (y20 - (if (p5 && (!p2)) = true then (max y16 x8) else y16))))
  (h8 : y22 = (if (decide ((if (p5 && (!p2)) = true then (y15 + (1 : Int)) else y15) = (3 : Int))) = true then y21 else x3))
  (h9 : y23 = (if (decide ((if (p5 && (!p2)) = true then (y15 + (1 : Int)) else y15) = (2 : Int))) = true then (Int.tdiv y19 (2 : Int)) else y22))
  (h10 : y24 = (if (decide ((if (p5 && (!p2)) = true then (y15 + (1 : Int)) else y15) = (1 : Int))) = true then (if (p5 && (!p2)) = true then (IntKind.wrap .i64 (y14 + x8)) else y14) else y23))
  (h11 : q26 = ((!(p3 && ((decide ((IntKind.wrap .i64 (y24 - x4)) ≤ x6)) && (decide (x6 ≤ (IntKind.wrap .i64 (y24 + x4))))))) && (decide (x5 ≤ (min (IntKind.wrap .i64 (x0 + (1 : Int))) (10 : Int))))))
  (h12 : y37 = (IntKind.wrap .i64 (x6 - (max (min x6 x7) (min (max x6 x7) x8)))))
  (h13 : y38 = (IntKind.wrap .i64 ((max (min x6 x7) (min (max x6 x7) x8)) - x6)))
  (h14 : q46 = ((p3 && (decide ((IntKind.wrap .i64 (x6 - ((IntKind.wrap .i64 (x6 + x7)) / (2 : Int)))) ≤ x4))) && (decide ((IntKind.wrap .i64 (((IntKind.wrap .i64 (x6 + x7)) / (2 : Int)) - x6)) ≤ x4))))
  (h15 : q52 = ((p3 && (decide ((IntKind.wrap .i64 (x6 - ((IntKind.wrap .i64 (x6 + x8)) / (2 : Int)))) ≤ x4))) && (decide ((IntKind.wrap .i64 (((IntKind.wrap .i64 (x6 + x8)) / (2 : Int)) - x6)) ≤ x4))))
  (h16 : q63 = ((p3 && (decide ((IntKind.wrap .i64 (x6 - ((IntKind.wrap .i64 (x7 + x8)) / (2 : Int)))) ≤ x4))) && (decide ((IntKind.wrap .i64 (((IntKind.wrap .i64 (x7 + x8)) / (2 : Int)) - x6)) ≤ x4))))
  (h17 : q70 = (p0 || ((!((p3 && (decide ((IntKind.wrap .i64 (x6 - x7)) ≤ x4))) && (decide ((IntKind.wrap .i64 (x7 - x6)) ≤ x4)))) && (decide (x5 ≤ (min (IntKind.wrap .i64 (x0 + (1 : Int))) (10 : Int)))))))
  (h18 : q75 = (p0 || ((!((p3 && (decide ((IntKind.wrap .i64 (x6 - x8)) ≤ x4))) && (decide ((IntKind.wrap .i64 (x8 - x6)) ≤ x4)))) && (decide (x5 ≤ (min (IntKind.wrap .i64 (x0 + (1 : Int))) (10 : Int)))))))
  (h19 : q80 = (p0 || ((!((p3 && (decide ((IntKind.wrap .i64 (x6 - x3)) ≤ x4))) && (decide ((IntKind.wrap .i64 (x3 - x6)) ≤ x4)))) && (decide (x5 ≤ (min (IntKind.wrap .i64 (x0 + (1 : Int))) (10 : Int)))))))
  (h20 : q90 = (if (p3 && (!p0)) = true then (if (p4 && (!p1)) = true then (if (p5 && (!p2)) = true then (p0 || ((!((p3 && (decide (y37 ≤ x4))) && (decide (y38 ≤ x4)))) && (decide (x5 ≤ (min (IntKind.wrap .i64 (x0 + (1 : Int))) (10 : Int)))))) else (p0 || ((!q46) && (decide (x5 ≤ (min (IntKind.wrap .i64 (x0 + (1 : Int))) (10 : Int))))))) else (if (p5 && (!p2)) = true then (p0 || ((!q52) && (decide (x5 ≤ (min (IntKind.wrap .i64 (x0 + (1 : Int))) (10 : Int)))))) else (p0 || ((!((p3 && (decide ((IntKind.wrap .i64 (0 : Int)) ≤ x4))) && (decide ((IntKind.wrap .i64 (0 : Int)) ≤ x4)))) && (decide (x5 ≤ (min (IntKind.wrap .i64 (x0 + (1 : Int))) (10 : Int)))))))) else (if (p4 && (!p1)) = true then (if (p5 && (!p2)) = true then (p0 || ((!q63) && (decide (x5 ≤ (min (IntKind.wrap .i64 (x0 + (1 : Int))) (10 : Int)))))) else q70) else (if (p5 && (!p2)) = true then q75 else q80))))
  (hz : y12 = 0) (he : y36 = 0) (v0 : 0 ≤ x0) (v1 : x0 ≤ 10) (v2 : 0 ≤ x1) (v3 : x1 ≤ 10) (v4 : 0 ≤ x2) (v5 : x2 ≤ 10) (v6 : -1000000 ≤ x3) (v7 : x3 ≤ 1000000) (v8 : 0 ≤ x4) (v9 : x4 ≤ 1000000) (v10 : 1 ≤ x5) (v11 : x5 ≤ 10)
  (v12 : p3 = true → -1000000 ≤ x6 ∧ x6 ≤ 1000000) (v13 : p4 = true → -1000000 ≤ x7 ∧ x7 ≤ 1000000) (v14 : p5 = true → -1000000 ≤ x8 ∧ x8 ≤ 1000000) :
  (if ((decide (y36 = (0 : Int))) && q90) = true then ((decide (y12 = (0 : Int))) && (p0 || q26)) else (!((decide (y12 = (0 : Int))) && (p0 || q26)))) = true := by
  subst h20 h19 h18 h17 h16 h15 h14 h13 h12 h11 h10 h9 h8 h7 h6 h5 h4 h3 h2 h1 h0
  simp only [ifNot, hz, he, tdiv2, tmod2, decide_eq_true_eq, decide_true, Bool.not_true, Bool.false_eq_true, if_false, if_true]
  clear hz he
  cases p0 <;> cases p1 <;> cases p2 <;> cases p3 <;> cases p4 <;> cases p5 <;> (try simp only [Bool.true_and, Bool.false_and, Bool.and_true, Bool.and_false, Bool.false_eq_true, if_false, if_true, Bool.not_true, Bool.not_false, Bool.not_eq_true', decide_eq_true_eq, decide_eq_false_iff_not, Bool.or_eq_true, Bool.and_eq_true, Bool.false_or, Bool.true_or, Bool.or_false, Bool.or_true, false_or, true_or, true_implies, forall_const, false_implies, Int.reduceAdd, Int.reduceEq, decide_true, decide_false] at *) <;> (try simp (disch := omega) only [wrap64']) <;> (try omega) <;> (try simp only [Bool.and_eq_true, Bool.not_eq_true', Bool.and_eq_false_iff, decide_eq_true_eq, decide_eq_false_iff_not]) <;> (try omega) <;> grind
theorem vote_n6 {y36 y12 : Int} {q90 p0 q26 : Bool}
  (hz : ¬ y12 = 0) (he : ¬ y36 = 0) :
  (if ((decide (y36 = (0 : Int))) && q90) = true then ((decide (y12 = (0 : Int))) && (p0 || q26)) else (!((decide (y12 = (0 : Int))) && (p0 || q26)))) = true := by
  grind
set_option maxHeartbeats 4000000 in
theorem vote_p7 {y14 x6 x7 y15 y16 y17 y18 x8 y19 y20 y21 y22 x3 y23 y24 x4 x5 x1 y40 y41 y36 y12 x0 x2 : Int} {p4 p1 p3 p0 p5 p2 q28 q48 q54 q60 q65 q77 q82 q91 : Bool}
  (h0 : y14 = (if (p4 && (!p1)) = true then (IntKind.wrap .i64 ((if (p3 && (!p0)) = true then x6 else (0 : Int)) + x7)) else (if (p3 && (!p0)) = true then x6 else (0 : Int))))
  (h1 : y15 = (if (p4 && (!p1)) = true then ((if (p3 && (!p0)) = true then (1 : Int) else (0 : Int)) + (1 : Int)) else (if (p3 && (!p0)) = true then (1 : Int) else (0 : Int))))
  (h2 : y16 = (if (p4 && (!p1)) = true then (max (if (p3 && (!p0)) = true then (max (-2147483647 : Int) x6) else (-2147483647 : Int)) x7) else (if (p3 && (!p0)) = true then (max (-2147483647 : Int) x6) else (-2147483647 : Int))))
  (h3 : y17 = (if (p4 && (!p1)) = true then (min (if (p3 && (!p0)) = true then (min (2147483647 : Int) x6) else (2147483647 : Int)) x7) else (if (p3 && (!p0)) = true then (min (2147483647 : Int) x6) else (2147483647 : Int))))
  (h4 : y18 = (Int.tmod (if (p5 && (!p2)) = true then (IntKind.wrap .i64 (y14 + x8)) else y14) (2 : Int)))
  (h5 : y19 = (IntKind.wrap .i64 ((if (p5 && (!p2)) = true then (IntKind.wrap .i64 (y14 + x8)) else y14) - (if (decide (y18 < (0 : Int))) = true then (1 : Int) else y18))))
  (h6 : y20 = (IntKind.wrap .i64 ((if (p5 && (!p2)) = true then (IntKind.wrap .i64 (y14 + x8)) else y14) - (if (p5 && (!p2)) = true then (min y17 x8) else y17))))
  (h7 : y21 = (IntKind.wrap .i64 (y20 - (if (p5 && (!p2)) = true then (max y16 x8) else y16))))
  (h8 : y22 = (if (decide ((if (p5 && (!p2)) = true then (y15 + (1 : Int)) else y15) = (3 : Int))) = true then y21 else x3))
  (h9 : y23 = (if (decide ((if (p5 && (!p2)) = true then (y15 + (1 : Int)) else y15) = (2 : Int))) = true then (Int.tdiv y19 (2 : Int)) else y22))
  (h10 : y24 = (if (decide ((if (p5 && (!p2)) = true then (y15 + (1 : Int)) else y15) = (1 : Int))) = true then (if (p5 && (!p2)) = true then (IntKind.wrap .i64 (y14 + x8)) else y14) else y23))
  (h11 : q28 = ((!(p4 && ((decide ((IntKind.wrap .i64 (y24 - x4)) ≤ x7)) && (decide (x7 ≤ (IntKind.wrap .i64 (y24 + x4))))))) && (decide (x5 ≤ (min (IntKind.wrap .i64 (x1 + (1 : Int))) (10 : Int))))))
  (h12 : y40 = (IntKind.wrap .i64 (x7 - (max (min x6 x7) (min (max x6 x7) x8)))))
  (h13 : y41 = (IntKind.wrap .i64 ((max (min x6 x7) (min (max x6 x7) x8)) - x7)))
  (h14 : q48 = ((p4 && (decide ((IntKind.wrap .i64 (x7 - ((IntKind.wrap .i64 (x6 + x7)) / (2 : Int)))) ≤ x4))) && (decide ((IntKind.wrap .i64 (((IntKind.wrap .i64 (x6 + x7)) / (2 : Int)) - x7)) ≤ x4))))
  (h15 : q54 = ((p4 && (decide ((IntKind.wrap .i64 (x7 - ((IntKind.wrap .i64 (x6 + x8)) / (2 : Int)))) ≤ x4))) && (decide ((IntKind.wrap .i64 (((IntKind.wrap .i64 (x6 + x8)) / (2 : Int)) - x7)) ≤ x4))))
  (h16 : q60 = (p1 || ((!((p4 && (decide ((IntKind.wrap .i64 (x7 - x6)) ≤ x4))) && (decide ((IntKind.wrap .i64 (x6 - x7)) ≤ x4)))) && (decide (x5 ≤ (min (IntKind.wrap .i64 (x1 + (1 : Int))) (10 : Int)))))))
  (h17 : q65 = ((p4 && (decide ((IntKind.wrap .i64 (x7 - ((IntKind.wrap .i64 (x7 + x8)) / (2 : Int)))) ≤ x4))) && (decide ((IntKind.wrap .i64 (((IntKind.wrap .i64 (x7 + x8)) / (2 : Int)) - x7)) ≤ x4))))
  (h18 : q77 = (p1 || ((!((p4 && (decide ((IntKind.wrap .i64 (x7 - x8)) ≤ x4))) && (decide ((IntKind.wrap .i64 (x8 - x7)) ≤ x4)))) && (decide (x5 ≤ (min (IntKind.wrap .i64 (x1 + (1 : Int))) (10 : Int)))))))
  (h19 : q82 = (p1 || ((!((p4 && (decide ((IntKind.wrap .i64 (x7 - x3)) ≤ x4))) && (decide ((IntKind.wrap .i64 (x3 - x7)) ≤ x4)))) && (decide (x5 ≤ (min (IntKind.wrap .i64 (x1 + (1 : Int))) (10 : Int)))))))
  (h20 : q91 = (if (p3 && (!p0)) = true then (if (p4 && (!p1)) = true then (if (p5 && (!p2)) = true then (p1 || ((!((p4 && (decide (y40 ≤ x4))) && (decide (y41 ≤ x4)))) && (decide (x5 ≤ (min (IntKind.wrap .i64 (x1 + (1 : Int))) (10 : Int)))))) else (p1 || ((!q48) && (decide (x5 ≤ (min (IntKind.wrap .i64 (x1 + (1 : Int))) (10 : Int))))))) else (if (p5 && (!p2)) = true then (p1 || ((!q54) && (decide (x5 ≤ (min (IntKind.wrap .i64 (x1 + (1 : Int))) (10 : Int)))))) else q60)) else (if (p4 && (!p1)) = true then (if (p5 && (!p2)) = true then (p1 || ((!q65) && (decide (x5 ≤ (min (IntKind.wrap .i64 (x1 + (1 : Int))) (10 : Int)))))) else (p1 || ((!((p4 && (decide ((IntKind.wrap .i64 (0 : Int)) ≤ x4))) && (decide ((IntKind.wrap .i64 (0 : Int)) ≤ x4)))) && (decide (x5 ≤ (min (IntKind.wrap .i64 (x1 + (1 : Int))) (10 : Int))))))) else (if (p5 && (!p2)) = true then q77 else q82))))
  (hz : y12 = 0) (he : y36 = 0) (v0 : 0 ≤ x0) (v1 : x0 ≤ 10) (v2 : 0 ≤ x1) (v3 : x1 ≤ 10) (v4 : 0 ≤ x2) (v5 : x2 ≤ 10) (v6 : -1000000 ≤ x3) (v7 : x3 ≤ 1000000) (v8 : 0 ≤ x4) (v9 : x4 ≤ 1000000) (v10 : 1 ≤ x5) (v11 : x5 ≤ 10)
  (v12 : p3 = true → -1000000 ≤ x6 ∧ x6 ≤ 1000000) (v13 : p4 = true → -1000000 ≤ x7 ∧ x7 ≤ 1000000) (v14 : p5 = true → -1000000 ≤ x8 ∧ x8 ≤ 1000000) :
  (if ((decide (y36 = (0 : Int))) && q91) = true then ((decide (y12 = (0 : Int))) && (p1 || q28)) else (!((decide (y12 = (0 : Int))) && (p1 || q28)))) = true := by
  subst h20 h19 h18 h17 h16 h15 h14 h13 h12 h11 h10 h9 h8 h7 h6 h5 h4 h3 h2 h1 h0
  simp only [ifNot, hz, he, tdiv2, tmod2, decide_eq_true_eq, decide_true, Bool.not_true, Bool.false_eq_true, if_false, if_true]
  clear hz he
  cases p0 <;> cases p1 <;> cases p2 <;> cases p3 <;> cases p4 <;> cases p5 <;> (try simp only [Bool.true_and, Bool.false_and, Bool.and_true, Bool.and_false, Bool.false_eq_true, if_false, if_true, Bool.not_true, Bool.not_false, Bool.not_eq_true', decide_eq_true_eq, decide_eq_false_iff_not, Bool.or_eq_true, Bool.and_eq_true, Bool.false_or, Bool.true_or, Bool.or_false, Bool.or_true, false_or, true_or, true_implies, forall_const, false_implies, Int.reduceAdd, Int.reduceEq, decide_true, decide_false] at *) <;> (try simp (disch := omega) only [wrap64']) <;> (try omega) <;> (try simp only [Bool.and_eq_true, Bool.not_eq_true', Bool.and_eq_false_iff, decide_eq_true_eq, decide_eq_false_iff_not]) <;> (try omega) <;> grind
theorem vote_n7 {y36 y12 : Int} {q91 p1 q28 : Bool}
  (hz : ¬ y12 = 0) (he : ¬ y36 = 0) :
  (if ((decide (y36 = (0 : Int))) && q91) = true then ((decide (y12 = (0 : Int))) && (p1 || q28)) else (!((decide (y12 = (0 : Int))) && (p1 || q28)))) = true := by
  grind
set_option maxHeartbeats 4000000 in
theorem vote_p8 {y14 x6 x7 y15 y16 y17 y18 x8 y19 y20 y21 y22 x3 y23 y24 x4 x5 x2 y43 y44 y36 y12 x0 x1 : Int} {p4 p1 p3 p0 p5 p2 q30 q50 q56 q62 q67 q73 q84 q92 : Bool}
  (h0 : y14 = (if (p4 && (!p1)) = true then (IntKind.wrap .i64 ((if (p3 && (!p0)) = true then x6 else (0 : Int)) + x7)) else (if (p3 && (!p0)) = true then x6 else (0 : Int))))
  (h1 : y15 = (if (p4 && (!p1)) = true then ((if (p3 && (!p0)) = true then (1 : Int) else (0 : Int)) + (1 : Int)) else (if (p3 && (!p0)) = true then (1 : Int) else (0 : Int))))
  (h2 : y16 = (if (p4 && (!p1)) = true then (max (if (p3 && (!p0)) = true then (max (-2147483647 : Int) x6) else (-2147483647 : Int)) x7) else (if (p3 && (!p0)) = true then (max (-2147483647 : Int) x6) else (-2147483647 : Int))))
  (h3 : y17 = (if (p4 && (!p1)) = true then (min (if (p3 && (!p0)) = true then (min (2147483647 : Int) x6) else (2147483647 : Int)) x7) else (if (p3 && (!p0)) = true then (min (2147483647 : Int) x6) else (2147483647 : Int))))
  (h4 : y18 = (Int.tmod (if (p5 && (!p2)) = true then (IntKind.wrap .i64 (y14 + x8)) else y14) (2 : Int)))
  (h5 : y19 = (IntKind.wrap .i64 ((if (p5 && (!p2)) = true then (IntKind.wrap .i64 (y14 + x8)) else y14) - (if (decide (y18 < (0 : Int))) = true then (1 : Int) else y18))))
  (h6 : y20 = (IntKind.wrap .i64 ((if (p5 && (!p2)) = true then (IntKind.wrap .i64 (y14 + x8)) else y14) - (if (p5 && (!p2)) = true then (min y17 x8) else y17))))
  (h7 : y21 = (IntKind.wrap .i64 (y20 - (if (p5 && (!p2)) = true then (max y16 x8) else y16))))
  (h8 : y22 = (if (decide ((if (p5 && (!p2)) = true then (y15 + (1 : Int)) else y15) = (3 : Int))) = true then y21 else x3))
  (h9 : y23 = (if (decide ((if (p5 && (!p2)) = true then (y15 + (1 : Int)) else y15) = (2 : Int))) = true then (Int.tdiv y19 (2 : Int)) else y22))
  (h10 : y24 = (if (decide ((if (p5 && (!p2)) = true then (y15 + (1 : Int)) else y15) = (1 : Int))) = true then (if (p5 && (!p2)) = true then (IntKind.wrap .i64 (y14 + x8)) else y14) else y23))
  (h11 : q30 = ((!(p5 && ((decide ((IntKind.wrap .i64 (y24 - x4)) ≤ x8)) && (decide (x8 ≤ (IntKind.wrap .i64 (y24 + x4))))))) && (decide (x5 ≤ (min (IntKind.wrap .i64 (x2 + (1 : Int))) (10 : Int))))))
  (h12 : y43 = (IntKind.wrap .i64 (x8 - (max (min x6 x7) (min (max x6 x7) x8)))))
  (h13 : y44 = (IntKind.wrap .i64 ((max (min x6 x7) (min (max x6 x7) x8)) - x8)))
  (h14 : q50 = ((p5 && (decide ((IntKind.wrap .i64 (x8 - ((IntKind.wrap .i64 (x6 + x7)) / (2 : Int)))) ≤ x4))) && (decide ((IntKind.wrap .i64 (((IntKind.wrap .i64 (x6 + x7)) / (2 : Int)) - x8)) ≤ x4))))
  (h15 : q56 = ((p5 && (decide ((IntKind.wrap .i64 (x8 - ((IntKind.wrap .i64 (x6 + x8)) / (2 : Int)))) ≤ x4))) && (decide ((IntKind.wrap .i64 (((IntKind.wrap .i64 (x6 + x8)) / (2 : Int)) - x8)) ≤ x4))))
  (h16 : q62 = (p2 || ((!((p5 && (decide ((IntKind.wrap .i64 (x8 - x6)) ≤ x4))) && (decide ((IntKind.wrap .i64 (x6 - x8)) ≤ x4)))) && (decide (x5 ≤ (min (IntKind.wrap .i64 (x2 + (1 : Int))) (10 : Int)))))))
  (h17 : q67 = ((p5 && (decide ((IntKind.wrap .i64 (x8 - ((IntKind.wrap .i64 (x7 + x8)) / (2 : Int)))) ≤ x4))) && (decide ((IntKind.wrap .i64 (((IntKind.wrap .i64 (x7 + x8)) / (2 : Int)) - x8)) ≤ x4))))
  (h18 : q73 = (p2 || ((!((p5 && (decide ((IntKind.wrap .i64 (x8 - x7)) ≤ x4))) && (decide ((IntKind.wrap .i64 (x7 - x8)) ≤ x4)))) && (decide (x5 ≤ (min (IntKind.wrap .i64 (x2 + (1 : Int))) (10 : Int)))))))
  (h19 : q84 = (p2 || ((!((p5 && (decide ((IntKind.wrap .i64 (x8 - x3)) ≤ x4))) && (decide ((IntKind.wrap .i64 (x3 - x8)) ≤ x4)))) && (decide (x5 ≤ (min (IntKind.wrap .i64 (x2 + (1 : Int))) (10 : Int)))))))
  (h20 : q92 = (if (p3 && (!p0)) = true then (if (p4 && (!p1)) = true then (if (p5 && (!p2)) = true then (p2 || ((!((p5 && (decide (y43 ≤ x4))) && (decide (y44 ≤ x4)))) && (decide (x5 ≤ (min (IntKind.wrap .i64 (x2 + (1 : Int))) (10 : Int)))))) else (p2 || ((!q50) && (decide (x5 ≤ (min (IntKind.wrap .i64 (x2 + (1 : Int))) (10 : Int))))))) else (if (p5 && (!p2)) = true then (p2 || ((!q56) && (decide (x5 ≤ (min (IntKind.wrap .i64 (x2 + (1 : Int))) (10 : Int)))))) else q62)) else (if (p4 && (!p1)) = true then (if (p5 && (!p2)) = true then (p2 || ((!q67) && (decide (x5 ≤ (min (IntKind.wrap .i64 (x2 + (1 : Int))) (10 : Int)))))) else q73) else (if (p5 && (!p2)) = true then (p2 || ((!((p5 && (decide ((IntKind.wrap .i64 (0 : Int)) ≤ x4))) && (decide ((IntKind.wrap .i64 (0 : Int)) ≤ x4)))) && (decide (x5 ≤ (min (IntKind.wrap .i64 (x2 + (1 : Int))) (10 : Int)))))) else q84))))
  (hz : y12 = 0) (he : y36 = 0) (v0 : 0 ≤ x0) (v1 : x0 ≤ 10) (v2 : 0 ≤ x1) (v3 : x1 ≤ 10) (v4 : 0 ≤ x2) (v5 : x2 ≤ 10) (v6 : -1000000 ≤ x3) (v7 : x3 ≤ 1000000) (v8 : 0 ≤ x4) (v9 : x4 ≤ 1000000) (v10 : 1 ≤ x5) (v11 : x5 ≤ 10)
  (v12 : p3 = true → -1000000 ≤ x6 ∧ x6 ≤ 1000000) (v13 : p4 = true → -1000000 ≤ x7 ∧ x7 ≤ 1000000) (v14 : p5 = true → -1000000 ≤ x8 ∧ x8 ≤ 1000000) :
  (if ((decide (y36 = (0 : Int))) && q92) = true then ((decide (y12 = (0 : Int))) && (p2 || q30)) else (!((decide (y12 = (0 : Int))) && (p2 || q30)))) = true := by
  subst h20 h19 h18 h17 h16 h15 h14 h13 h12 h11 h10 h9 h8 h7 h6 h5 h4 h3 h2 h1 h0
  simp only [ifNot, hz, he, tdiv2, tmod2, decide_eq_true_eq, decide_true, Bool.not_true, Bool.false_eq_true, if_false, if_true]
  clear hz he
  cases p0 <;> cases p1 <;> cases p2 <;> cases p3 <;> cases p4 <;> cases p5 <;> (try simp only [Bool.true_and, Bool.false_and, Bool.and_true, Bool.and_false, Bool.false_eq_true, if_false, if_true, Bool.not_true, Bool.not_false, Bool.not_eq_true', decide_eq_true_eq, decide_eq_false_iff_not, Bool.or_eq_true, Bool.and_eq_true, Bool.false_or, Bool.true_or, Bool.or_false, Bool.or_true, false_or, true_or, true_implies, forall_const, false_implies, Int.reduceAdd, Int.reduceEq, decide_true, decide_false] at *) <;> (try simp (disch := omega) only [wrap64']) <;> (try omega) <;> (try simp only [Bool.and_eq_true, Bool.not_eq_true', Bool.and_eq_false_iff, decide_eq_true_eq, decide_eq_false_iff_not]) <;> (try omega) <;> grind
theorem vote_n8 {y36 y12 : Int} {q92 p2 q30 : Bool}
  (hz : ¬ y12 = 0) (he : ¬ y36 = 0) :
  (if ((decide (y36 = (0 : Int))) && q92) = true then ((decide (y12 = (0 : Int))) && (p2 || q30)) else (!((decide (y12 = (0 : Int))) && (p2 || q30)))) = true := by
  grind
set_option maxHeartbeats 4000000 in
theorem vote_p9 {y14 x6 x7 y15 y16 y17 y18 x8 y19 y20 y21 y22 x3 y23 y24 y85 y36 y12 x0 x1 x2 x4 x5 : Int} {p4 p1 p3 p0 p5 p2 : Bool}
  (h0 : y14 = (if (p4 && (!p1)) = true then (IntKind.wrap .i64 ((if (p3 && (!p0)) = true then x6 else (0 : Int)) + x7)) else (if (p3 && (!p0)) = true then x6 else (0 : Int))))
  (h1 : y15 = (if (p4 && (!p1)) = true then ((if (p3 && (!p0)) = true then (1 : Int) else (0 : Int)) + (1 : Int)) else (if (p3 && (!p0)) = true then (1 : Int) else (0 : Int))))
  (h2 : y16 = (if (p4 && (!p1)) = true then (max (if (p3 && (!p0)) = true then (max (-2147483647 : Int) x6) else (-2147483647 : Int)) x7) else (if (p3 && (!p0)) = true then (max (-2147483647 : Int) x6) else (-2147483647 : Int))))
  (h3 : y17 = (if (p4 && (!p1)) = true then (min (if (p3 && (!p0)) = true then (min (2147483647 : Int) x6) else (2147483647 : Int)) x7) else (if (p3 && (!p0)) = true then (min (2147483647 : Int) x6) else (2147483647 : Int))))
  (h4 : y18 = (Int.tmod (if (p5 && (!p2)) = true then (IntKind.wrap .i64 (y14 + x8)) else y14) (2 : Int)))
  (h5 : y19 = (IntKind.wrap .i64 ((if (p5 && (!p2)) = true then (IntKind.wrap .i64 (y14 + x8)) else y14) - (if (decide (y18 < (0 : Int))) = true then (1 : Int) else y18))))
  (h6 : y20 = (IntKind.wrap .i64 ((if (p5 && (!p2)) = true then (IntKind.wrap .i64 (y14 + x8)) else y14) - (if (p5 && (!p2)) = true then (min y17 x8) else y17))))
  (h7 : y21 = (IntKind.wrap .i64 (y20 - (if (p5 && (!p2)) = true then (max y16 x8) else y16))))
  (h8 : y22 = (if (decide ((if (p5 && (!p2)) = true then (y15 + (1 : Int)) else y15) = (3 : Int))) = true then y21 else x3))
  (h9 : y23 = (if (decide ((if (p5 && (!p2)) = true then (y15 + (1 : Int)) else y15) = (2 : Int))) = true then (Int.tdiv y19 (2 : Int)) else y22))
  (h10 : y24 = (if (decide ((if (p5 && (!p2)) = true then (y15 + (1 : Int)) else y15) = (1 : Int))) = true then (if (p5 && (!p2)) = true then (IntKind.wrap .i64 (y14 + x8)) else y14) else y23))
  (h11 : y85 = (if (p3 && (!p0)) = true then (if (p4 && (!p1)) = true then (if (p5 && (!p2)) = true then (max (min x6 x7) (min (max x6 x7) x8)) else ((IntKind.wrap .i64 (x6 + x7)) / (2 : Int))) else (if (p5 && (!p2)) = true then ((IntKind.wrap .i64 (x6 + x8)) / (2 : Int)) else x6)) else (if (p4 && (!p1)) = true then (if (p5 && (!p2)) = true then ((IntKind.wrap .i64 (x7 + x8)) / (2 : Int)) else x7) else (if (p5 && (!p2)) = true then x8 else x3))))
  (hz : y12 = 0) (he : y36 = 0) (v0 : 0 ≤ x0) (v1 : x0 ≤ 10) (v2 : 0 ≤ x1) (v3 : x1 ≤ 10) (v4 : 0 ≤ x2) (v5 : x2 ≤ 10) (v6 : -1000000 ≤ x3) (v7 : x3 ≤ 1000000) (v8 : 0 ≤ x4) (v9 : x4 ≤ 1000000) (v10 : 1 ≤ x5) (v11 : x5 ≤ 10)
  (v12 : p3 = true → -1000000 ≤ x6 ∧ x6 ≤ 1000000) (v13 : p4 = true → -1000000 ≤ x7 ∧ x7 ≤ 1000000) (v14 : p5 = true → -1000000 ≤ x8 ∧ x8 ≤ 1000000) :
  (decide ((if (!(decide (y36 = (0 : Int)))) = true then (0 : Int) else y85) = (if (decide (y12 = (0 : Int))) = true then y24 else (0 : Int)))) = true := by
  subst h11 h10 h9 h8 h7 h6 h5 h4 h3 h2 h1 h0
  simp only [ifNot, hz, he, tdiv2, tmod2, decide_eq_true_eq, decide_true, Bool.not_true, Bool.false_eq_true, if_false, if_true]
  clear hz he
  cases p0 <;> cases p1 <;> cases p2 <;> cases p3 <;> cases p4 <;> cases p5 <;> (try simp only [Bool.true_and, Bool.false_and, Bool.and_true, Bool.and_false, Bool.false_eq_true, if_false, if_true, Bool.not_true, Bool.not_false, Bool.not_eq_true', decide_eq_true_eq, decide_eq_false_iff_not, Bool.or_eq_true, Bool.and_eq_true, Bool.false_or, Bool.true_or, Bool.or_false, Bool.or_true, false_or, true_or, true_implies, forall_const, false_implies, Int.reduceAdd, Int.reduceEq, decide_true, decide_false] at *) <;> (try simp (disch := omega) only [wrap64']) <;> (try omega) <;> (try simp only [Bool.and_eq_true, Bool.not_eq_true', Bool.and_eq_false_iff, decide_eq_true_eq, decide_eq_false_iff_not]) <;> (try omega) <;> grind
theorem vote_n9 {y36 y85 y12 y24 : Int}
  (hz : ¬ y12 = 0) (he : ¬ y36 = 0) :
  (decide ((if (!(decide (y36 = (0 : Int)))) = true then (0 : Int) else y85) = (if (decide (y12 = (0 : Int))) = true then y24 else (0 : Int)))) = true := by
  grind
set_option maxHeartbeats 4000000 in
theorem vote_p10 {y14 x6 x7 y15 y16 y17 y18 x8 y19 y20 y21 y22 x3 y23 y24 y85 y36 y12 x0 x1 x2 x4 x5 : Int} {p4 p1 p3 p0 p5 p2 : Bool}
  (h0 : y14 = (if (p4 && (!p1)) = true then (IntKind.wrap .i64 ((if (p3 && (!p0)) = true then x6 else (0 : Int)) + x7)) else (if (p3 && (!p0)) = true then x6 else (0 : Int))))
  (h1 : y15 = (if (p4 && (!p1)) = true then ((if (p3 && (!p0)) = true then (1 : Int) else (0 : Int)) + (1 : Int)) else (if (p3 && (!p0)) = true then (1 : Int) else (0 : Int))))
  (h2 : y16 = (if (p4 && (!p1)) = true then (max (if (p3 && (!p0)) = true then (max (-2147483647 : Int) x6) else (-2147483647 : Int)) x7) else (if (p3 && (!p0)) = true then (max (-2147483647 : Int) x6) else (-2147483647 : Int))))
  (h3 : y17 = (if (p4 && (!p1)) = true then (min (if (p3 && (!p0)) = true then (min (2147483647 : Int) x6) else (2147483647 : Int)) x7) else (if (p3 && (!p0)) = true then (min (2147483647 : Int) x6) else (2147483647 : Int))))
  (h4 : y18 = (Int.tmod (if (p5 && (!p2)) = true then (IntKind.wrap .i64 (y14 + x8)) else y14) (2 : Int)))
  (h5 : y19 = (IntKind.wrap .i64 ((if (p5 && (!p2)) = true then (IntKind.wrap .i64 (y14 + x8)) else y14) - (if (decide (y18 < (0 : Int))) = true then (1 : Int) else y18))))
  (h6 : y20 = (IntKind.wrap .i64 ((if (p5 && (!p2)) = true then (IntKind.wrap .i64 (y14 + x8)) else y14) - (if (p5 && (!p2)) = true then (min y17 x8) else y17))))
  (h7 : y21 = (IntKind.wrap .i64 (y20 - (if (p5 && (!p2)) = true then (max y16 x8) else y16))))
  (h8 : y22 = (if (decide ((if (p5 && (!p2)) = true then (y15 + (1 : Int)) else y15) = (3 : Int))) = true then y21 else x3))
  (h9 : y23 = (if (decide ((if (p5 && (!p2)) = true then (y15 + (1 : Int)) else y15) = (2 : Int))) = true then (Int.tdiv y19 (2 : Int)) else y22))
  (h10 : y24 = (if (decide ((if (p5 && (!p2)) = true then (y15 + (1 : Int)) else y15) = (1 : Int))) = true then (if (p5 && (!p2)) = true then (IntKind.wrap .i64 (y14 + x8)) else y14) else y23))
  (h11 : y85 = (if (p3 && (!p0)) = true then (if (p4 && (!p1)) = true then (if (p5 && (!p2)) = true then (max (min x6 x7) (min (max x6 x7) x8)) else ((IntKind.wrap .i64 (x6 + x7)) / (2 : Int))) else (if (p5 && (!p2)) = true then ((IntKind.wrap .i64 (x6 + x8)) / (2 : Int)) else x6)) else (if (p4 && (!p1)) = true then (if (p5 && (!p2)) = true then ((IntKind.wrap .i64 (x7 + x8)) / (2 : Int)) else x7) else (if (p5 && (!p2)) = true then x8 else x3))))
  (hz : y12 = 0) (he : y36 = 0) (v0 : 0 ≤ x0) (v1 : x0 ≤ 10) (v2 : 0 ≤ x1) (v3 : x1 ≤ 10) (v4 : 0 ≤ x2) (v5 : x2 ≤ 10) (v6 : -1000000 ≤ x3) (v7 : x3 ≤ 1000000) (v8 : 0 ≤ x4) (v9 : x4 ≤ 1000000) (v10 : 1 ≤ x5) (v11 : x5 ≤ 10)
  (v12 : p3 = true → -1000000 ≤ x6 ∧ x6 ≤ 1000000) (v13 : p4 = true → -1000000 ≤ x7 ∧ x7 ≤ 1000000) (v14 : p5 = true → -1000000 ≤ x8 ∧ x8 ≤ 1000000) :
  (decide ((if (!(decide (y36 = (0 : Int)))) = true then (0 : Int) else y85) = (if (decide (y12 = (0 : Int))) = true then y24 else (0 : Int)))) = true := by
  subst h11 h10 h9 h8 h7 h6 h5 h4 h3 h2 h1 h0
  simp only [ifNot, hz, he, tdiv2, tmod2, decide_eq_true_eq, decide_true, Bool.not_true, Bool.false_eq_true, if_false, if_true]
  clear hz he
  cases p0 <;> cases p1 <;> cases p2 <;> cases p3 <;> cases p4 <;> cases p5 <;> (try simp only [Bool.true_and, Bool.false_and, Bool.and_true, Bool.and_false, Bool.false_eq_true, if_false, if_true, Bool.not_true, Bool.not_false, Bool.not_eq_true', decide_eq_true_eq, decide_eq_false_iff_not, Bool.or_eq_true, Bool.and_eq_true, Bool.false_or, Bool.true_or, Bool.or_false, Bool.or_true, false_or, true_or, true_implies, forall_const, false_implies, Int.reduceAdd, Int.reduceEq, decide_true, decide_false] at *) <;> (try simp (disch := omega) only [wrap64']) <;> (try omega) <;> (try simp only [Bool.and_eq_true, Bool.not_eq_true', Bool.and_eq_false_iff, decide_eq_true_eq, decide_eq_false_iff_not]) <;> (try omega) <;> grind
theorem vote_n10 {y36 y85 y12 y24 : Int}
  (hz : ¬ y12 = 0) (he : ¬ y36 = 0) :
  (decide ((if (!(decide (y36 = (0 : Int)))) = true then (0 : Int) else y85) = (if (decide (y12 = (0 : Int))) = true then y24 else (0 : Int)))) = true := by
  grind
set_option maxHeartbeats 4000000 in
theorem vote_p11 {y15 y31 y12 y86 y36 x0 x1 x2 x3 x4 x5 x6 x7 x8 : Int} {p4 p1 p3 p0 p5 p2 : Bool}
  (h0 : y15 = (if (p4 && (!p1)) = true then ((if (p3 && (!p0)) = true then (1 : Int) else (0 : Int)) + (1 : Int)) else (if (p3 && (!p0)) = true then (1 : Int) else (0 : Int))))
  (h1 : y31 = (if (decide (y12 = (0 : Int))) = true then (if (p5 && (!p2)) = true then (y15 + (1 : Int)) else y15) else (0 : Int)))
  (h2 : y86 = (if (p3 && (!p0)) = true then (if (p4 && (!p1)) = true then (if (p5 && (!p2)) = true then (3 : Int) else (2 : Int)) else (if (p5 && (!p2)) = true then (2 : Int) else (1 : Int))) else (if (p4 && (!p1)) = true then (if (p5 && (!p2)) = true then (2 : Int) else (1 : Int)) else (if (p5 && (!p2)) = true then (1 : Int) else (0 : Int)))))
  (hz : y12 = 0) (he : y36 = 0) (v0 : 0 ≤ x0) (v1 : x0 ≤ 10) (v2 : 0 ≤ x1) (v3 : x1 ≤ 10) (v4 : 0 ≤ x2) (v5 : x2 ≤ 10) (v6 : -1000000 ≤ x3) (v7 : x3 ≤ 1000000) (v8 : 0 ≤ x4) (v9 : x4 ≤ 1000000) (v10 : 1 ≤ x5) (v11 : x5 ≤ 10)
  (v12 : p3 = true → -1000000 ≤ x6 ∧ x6 ≤ 1000000) (v13 : p4 = true → -1000000 ≤ x7 ∧ x7 ≤ 1000000) (v14 : p5 = true → -1000000 ≤ x8 ∧ x8 ≤ 1000000) :
  (decide ((if (!(decide (y36 = (0 : Int)))) = true then (0 : Int) else y86) = y31)) = true := by
  subst h2 h1 h0
  simp only [ifNot, hz, he, tdiv2, tmod2, decide_eq_true_eq, decide_true, Bool.not_true, Bool.false_eq_true, if_false, if_true]
  clear hz he
  cases p0 <;> cases p1 <;> cases p2 <;> cases p3 <;> cases p4 <;> cases p5 <;> (try simp only [Bool.true_and, Bool.false_and, Bool.and_true, Bool.and_false, Bool.false_eq_true, if_false, if_true, Bool.not_true, Bool.not_false, Bool.not_eq_true', decide_eq_true_eq, decide_eq_false_iff_not, Bool.or_eq_true, Bool.and_eq_true, Bool.false_or, Bool.true_or, Bool.or_false, Bool.or_true, false_or, true_or, true_implies, forall_const, false_implies, Int.reduceAdd, Int.reduceEq, decide_true, decide_false] at *) <;> (try simp (disch := omega) only [wrap64']) <;> (try omega) <;> (try simp only [Bool.and_eq_true, Bool.not_eq_true', Bool.and_eq_false_iff, decide_eq_true_eq, decide_eq_false_iff_not]) <;> (try omega) <;> grind
theorem vote_n11 {y31 y12 y15 y36 y86 : Int} {p5 p2 : Bool}
  (h0 : y31 = (if (decide (y12 = (0 : Int))) = true then (if (p5 && (!p2)) = true then (y15 + (1 : Int)) else y15) else (0 : Int)))
  (hz : ¬ y12 = 0) (he : ¬ y36 = 0) :
  (decide ((if (!(decide (y36 = (0 : Int)))) = true then (0 : Int) else y86) = y31)) = true := by
  grind
set_option maxHeartbeats 4000000 in
theorem vote_p12 {y96 y97 : Int} {p1 p0 p2 : Bool}
  (h0 : y96 = (if (!p1) = true then ((if (!p0) = true then (1 : Int) else (0 : Int)) + (1 : Int)) else (if (!p0) = true then (1 : Int) else (0 : Int))))
  (h1 : y97 = (if p1 = true then ((if p0 = true then (2 : Int) else (3 : Int)) - (1 : Int)) else (if p0 = true then (2 : Int) else (3 : Int)))) :
  (decide ((if (!p2) = true then (y96 + (1 : Int)) else y96) = (if p2 = true then (y97 - (1 : Int)) else y97))) = true := by
  grind
set_option maxHeartbeats 4000000 in
theorem vote_v0 {y1 x4 x5 x3 x0 x1 x2 y3 y5 x6 y6 y8 x7 y9 y11 x8 y12 : Int} {q2 p3 p4 p5 : Bool}
  (h0 : y1 = (if ((!((decide ((0 : Int) ≤ x4)) && (decide (x4 ≤ (1000000 : Int))))) || (!((decide ((1 : Int) ≤ x5)) && (decide (x5 ≤ (10 : Int)))))) = true then (1 : Int) else (0 : Int)))
  (h1 : q2 = (((((decide ((-1000000 : Int) ≤ x3)) && (decide (x3 ≤ (1000000 : Int)))) && ((decide ((0 : Int) ≤ x0)) && (decide (x0 ≤ (10 : Int))))) && ((decide ((0 : Int) ≤ x1)) && (decide (x1 ≤ (10 : Int))))) && ((decide ((0 : Int) ≤ x2)) && (decide (x2 ≤ (10 : Int))))))
  (h2 : y3 = (if (!(decide (y1 = (0 : Int)))) = true then y1 else (if (!(decide ((if (!q2) = true then (3 : Int) else (0 : Int)) = (0 : Int)))) = true then (if (!q2) = true then (3 : Int) else (0 : Int)) else (0 : Int))))
  (h3 : y5 = (if (p3 && (!((decide ((-1000000 : Int) ≤ x6)) && (decide (x6 ≤ (1000000 : Int)))))) = true then (1 : Int) else (0 : Int)))
  (h4 : y6 = (if (!(decide (y3 = (0 : Int)))) = true then y3 else (if (!(decide (y5 = (0 : Int)))) = true then y5 else (0 : Int))))
  (h5 : y8 = (if (p4 && (!((decide ((-1000000 : Int) ≤ x7)) && (decide (x7 ≤ (1000000 : Int)))))) = true then (1 : Int) else (0 : Int)))
  (h6 : y9 = (if (!(decide (y6 = (0 : Int)))) = true then y6 else (if (!(decide (y8 = (0 : Int)))) = true then y8 else (0 : Int))))
  (h7 : y11 = (if (p5 && (!((decide ((-1000000 : Int) ≤ x8)) && (decide (x8 ≤ (1000000 : Int)))))) = true then (1 : Int) else (0 : Int)))
  (h8 : y12 = (if (!(decide (y9 = (0 : Int)))) = true then y9 else (if (!(decide (y11 = (0 : Int)))) = true then y11 else (0 : Int)))) :
  ((!(decide (y12 = (0 : Int)))) || ((decide ((0 : Int) ≤ x0)) && (decide (x0 ≤ (10 : Int))))) = true := by
  cases p3 <;> cases p4 <;> cases p5 <;> simp only [Bool.true_and, Bool.false_and, Bool.and_true, Bool.and_false, Bool.false_eq_true, if_false, Bool.not_eq_true', decide_eq_true_eq, decide_eq_false_iff_not, Bool.or_eq_true, Bool.and_eq_true] at * <;> grind
set_option maxHeartbeats 4000000 in
theorem vote_v1 {y1 x4 x5 x3 x0 x1 x2 y3 y5 x6 y6 y8 x7 y9 y11 x8 y12 : Int} {q2 p3 p4 p5 : Bool}
  (h0 : y1 = (if ((!((decide ((0 : Int) ≤ x4)) && (decide (x4 ≤ (1000000 : Int))))) || (!((decide ((1 : Int) ≤ x5)) && (decide (x5 ≤ (10 : Int)))))) = true then (1 : Int) else (0 : Int)))
  (h1 : q2 = (((((decide ((-1000000 : Int) ≤ x3)) && (decide (x3 ≤ (1000000 : Int)))) && ((decide ((0 : Int) ≤ x0)) && (decide (x0 ≤ (10 : Int))))) && ((decide ((0 : Int) ≤ x1)) && (decide (x1 ≤ (10 : Int))))) && ((decide ((0 : Int) ≤ x2)) && (decide (x2 ≤ (10 : Int))))))
  (h2 : y3 = (if (!(decide (y1 = (0 : Int)))) = true then y1 else (if (!(decide ((if (!q2) = true then (3 : Int) else (0 : Int)) = (0 : Int)))) = true then (if (!q2) = true then (3 : Int) else (0 : Int)) else (0 : Int))))
  (h3 : y5 = (if (p3 && (!((decide ((-1000000 : Int) ≤ x6)) && (decide (x6 ≤ (1000000 : Int)))))) = true then (1 : Int) else (0 : Int)))
  (h4 : y6 = (if (!(decide (y3 = (0 : Int)))) = true then y3 else (if (!(decide (y5 = (0 : Int)))) = true then y5 else (0 : Int))))
  (h5 : y8 = (if (p4 && (!((decide ((-1000000 : Int) ≤ x7)) && (decide (x7 ≤ (1000000 : Int)))))) = true then (1 : Int) else (0 : Int)))
  (h6 : y9 = (if (!(decide (y6 = (0 : Int)))) = true then y6 else (if (!(decide (y8 = (0 : Int)))) = true then y8 else (0 : Int))))
  (h7 : y11 = (if (p5 && (!((decide ((-1000000 : Int) ≤ x8)) && (decide (x8 ≤ (1000000 : Int)))))) = true then (1 : Int) else (0 : Int)))
  (h8 : y12 = (if (!(decide (y9 = (0 : Int)))) = true then y9 else (if (!(decide (y11 = (0 : Int)))) = true then y11 else (0 : Int)))) :
  ((!(decide (y12 = (0 : Int)))) || ((decide ((0 : Int) ≤ x1)) && (decide (x1 ≤ (10 : Int))))) = true := by
  cases p3 <;> cases p4 <;> cases p5 <;> simp only [Bool.true_and, Bool.false_and, Bool.and_true, Bool.and_false, Bool.false_eq_true, if_false, Bool.not_eq_true', decide_eq_true_eq, decide_eq_false_iff_not, Bool.or_eq_true, Bool.and_eq_true] at * <;> grind
set_option maxHeartbeats 4000000 in
theorem vote_v2 {y1 x4 x5 x3 x0 x1 x2 y3 y5 x6 y6 y8 x7 y9 y11 x8 y12 : Int} {q2 p3 p4 p5 : Bool}
  (h0 : y1 = (if ((!((decide ((0 : Int) ≤ x4)) && (decide (x4 ≤ (1000000 : Int))))) || (!((decide ((1 : Int) ≤ x5)) && (decide (x5 ≤ (10 : Int)))))) = true then (1 : Int) else (0 : Int)))
  (h1 : q2 = (((((decide ((-1000000 : Int) ≤ x3)) && (decide (x3 ≤ (1000000 : Int)))) && ((decide ((0 : Int) ≤ x0)) && (decide (x0 ≤ (10 : Int))))) && ((decide ((0 : Int) ≤ x1)) && (decide (x1 ≤ (10 : Int))))) && ((decide ((0 : Int) ≤ x2)) && (decide (x2 ≤ (10 : Int))))))
  (h2 : y3 = (if (!(decide (y1 = (0 : Int)))) = true then y1 else (if (!(decide ((if (!q2) = true then (3 : Int) else (0 : Int)) = (0 : Int)))) = true then (if (!q2) = true then (3 : Int) else (0 : Int)) else (0 : Int))))
  (h3 : y5 = (if (p3 && (!((decide ((-1000000 : Int) ≤ x6)) && (decide (x6 ≤ (1000000 : Int)))))) = true then (1 : Int) else (0 : Int)))
  (h4 : y6 = (if (!(decide (y3 = (0 : Int)))) = true then y3 else (if (!(decide (y5 = (0 : Int)))) = true then y5 else (0 : Int))))
  (h5 : y8 = (if (p4 && (!((decide ((-1000000 : Int) ≤ x7)) && (decide (x7 ≤ (1000000 : Int)))))) = true then (1 : Int) else (0 : Int)))
  (h6 : y9 = (if (!(decide (y6 = (0 : Int)))) = true then y6 else (if (!(decide (y8 = (0 : Int)))) = true then y8 else (0 : Int))))
  (h7 : y11 = (if (p5 && (!((decide ((-1000000 : Int) ≤ x8)) && (decide (x8 ≤ (1000000 : Int)))))) = true then (1 : Int) else (0 : Int)))
  (h8 : y12 = (if (!(decide (y9 = (0 : Int)))) = true then y9 else (if (!(decide (y11 = (0 : Int)))) = true then y11 else (0 : Int)))) :
  ((!(decide (y12 = (0 : Int)))) || ((decide ((0 : Int) ≤ x2)) && (decide (x2 ≤ (10 : Int))))) = true := by
  cases p3 <;> cases p4 <;> cases p5 <;> simp only [Bool.true_and, Bool.false_and, Bool.and_true, Bool.and_false, Bool.false_eq_true, if_false, Bool.not_eq_true', decide_eq_true_eq, decide_eq_false_iff_not, Bool.or_eq_true, Bool.and_eq_true] at * <;> grind
set_option maxHeartbeats 4000000 in
theorem vote_v3 {y1 x4 x5 x3 x0 x1 x2 y3 y5 x6 y6 y8 x7 y9 y11 x8 y12 : Int} {q2 p3 p4 p5 : Bool}
  (h0 : y1 = (if ((!((decide ((0 : Int) ≤ x4)) && (decide (x4 ≤ (1000000 : Int))))) || (!((decide ((1 : Int) ≤ x5)) && (decide (x5 ≤ (10 : Int)))))) = true then (1 : Int) else (0 : Int)))
  (h1 : q2 = (((((decide ((-1000000 : Int) ≤ x3)) && (decide (x3 ≤ (1000000 : Int)))) && ((decide ((0 : Int) ≤ x0)) && (decide (x0 ≤ (10 : Int))))) && ((decide ((0 : Int) ≤ x1)) && (decide (x1 ≤ (10 : Int))))) && ((decide ((0 : Int) ≤ x2)) && (decide (x2 ≤ (10 : Int))))))
  (h2 : y3 = (if (!(decide (y1 = (0 : Int)))) = true then y1 else (if (!(decide ((if (!q2) = true then (3 : Int) else (0 : Int)) = (0 : Int)))) = true then (if (!q2) = true then (3 : Int) else (0 : Int)) else (0 : Int))))
  (h3 : y5 = (if (p3 && (!((decide ((-1000000 : Int) ≤ x6)) && (decide (x6 ≤ (1000000 : Int)))))) = true then (1 : Int) else (0 : Int)))
  (h4 : y6 = (if (!(decide (y3 = (0 : Int)))) = true then y3 else (if (!(decide (y5 = (0 : Int)))) = true then y5 else (0 : Int))))
  (h5 : y8 = (if (p4 && (!((decide ((-1000000 : Int) ≤ x7)) && (decide (x7 ≤ (1000000 : Int)))))) = true then (1 : Int) else (0 : Int)))
  (h6 : y9 = (if (!(decide (y6 = (0 : Int)))) = true then y6 else (if (!(decide (y8 = (0 : Int)))) = true then y8 else (0 : Int))))
  (h7 : y11 = (if (p5 && (!((decide ((-1000000 : Int) ≤ x8)) && (decide (x8 ≤ (1000000 : Int)))))) = true then (1 : Int) else (0 : Int)))
  (h8 : y12 = (if (!(decide (y9 = (0 : Int)))) = true then y9 else (if (!(decide (y11 = (0 : Int)))) = true then y11 else (0 : Int)))) :
  ((!(decide (y12 = (0 : Int)))) || ((decide ((-1000000 : Int) ≤ x3)) && (decide (x3 ≤ (1000000 : Int))))) = true := by
  cases p3 <;> cases p4 <;> cases p5 <;> simp only [Bool.true_and, Bool.false_and, Bool.and_true, Bool.and_false, Bool.false_eq_true, if_false, Bool.not_eq_true', decide_eq_true_eq, decide_eq_false_iff_not, Bool.or_eq_true, Bool.and_eq_true] at * <;> grind
set_option maxHeartbeats 4000000 in
theorem vote_v4 {y1 x4 x5 x3 x0 x1 x2 y3 y5 x6 y6 y8 x7 y9 y11 x8 y12 : Int} {q2 p3 p4 p5 : Bool}
  (h0 : y1 = (if ((!((decide ((0 : Int) ≤ x4)) && (decide (x4 ≤ (1000000 : Int))))) || (!((decide ((1 : Int) ≤ x5)) && (decide (x5 ≤ (10 : Int)))))) = true then (1 : Int) else (0 : Int)))
  (h1 : q2 = (((((decide ((-1000000 : Int) ≤ x3)) && (decide (x3 ≤ (1000000 : Int)))) && ((decide ((0 : Int) ≤ x0)) && (decide (x0 ≤ (10 : Int))))) && ((decide ((0 : Int) ≤ x1)) && (decide (x1 ≤ (10 : Int))))) && ((decide ((0 : Int) ≤ x2)) && (decide (x2 ≤ (10 : Int))))))
  (h2 : y3 = (if (!(decide (y1 = (0 : Int)))) = true then y1 else (if (!(decide ((if (!q2) = true then (3 : Int) else (0 : Int)) = (0 : Int)))) = true then (if (!q2) = true then (3 : Int) else (0 : Int)) else (0 : Int))))
  (h3 : y5 = (if (p3 && (!((decide ((-1000000 : Int) ≤ x6)) && (decide (x6 ≤ (1000000 : Int)))))) = true then (1 : Int) else (0 : Int)))
  (h4 : y6 = (if (!(decide (y3 = (0 : Int)))) = true then y3 else (if (!(decide (y5 = (0 : Int)))) = true then y5 else (0 : Int))))
  (h5 : y8 = (if (p4 && (!((decide ((-1000000 : Int) ≤ x7)) && (decide (x7 ≤ (1000000 : Int)))))) = true then (1 : Int) else (0 : Int)))
  (h6 : y9 = (if (!(decide (y6 = (0 : Int)))) = true then y6 else (if (!(decide (y8 = (0 : Int)))) = true then y8 else (0 : Int))))
  (h7 : y11 = (if (p5 && (!((decide ((-1000000 : Int) ≤ x8)) && (decide (x8 ≤ (1000000 : Int)))))) = true then (1 : Int) else (0 : Int)))
  (h8 : y12 = (if (!(decide (y9 = (0 : Int)))) = true then y9 else (if (!(decide (y11 = (0 : Int)))) = true then y11 else (0 : Int)))) :
  ((!(decide (y12 = (0 : Int)))) || ((decide ((0 : Int) ≤ x4)) && (decide (x4 ≤ (1000000 : Int))))) = true := by
  cases p3 <;> cases p4 <;> cases p5 <;> simp only [Bool.true_and, Bool.false_and, Bool.and_true, Bool.and_false, Bool.false_eq_true, if_false, Bool.not_eq_true', decide_eq_true_eq, decide_eq_false_iff_not, Bool.or_eq_true, Bool.and_eq_true] at * <;> grind
set_option maxHeartbeats 4000000 in
theorem vote_v5 {y1 x4 x5 x3 x0 x1 x2 y3 y5 x6 y6 y8 x7 y9 y11 x8 y12 : Int} {q2 p3 p4 p5 : Bool}
  (h0 : y1 = (if ((!((decide ((0 : Int) ≤ x4)) && (decide (x4 ≤ (1000000 : Int))))) || (!((decide ((1 : Int) ≤ x5)) && (decide (x5 ≤ (10 : Int)))))) = true then (1 : Int) else (0 : Int)))
  (h1 : q2 = (((((decide ((-1000000 : Int) ≤ x3)) && (decide (x3 ≤ (1000000 : Int)))) && ((decide ((0 : Int) ≤ x0)) && (decide (x0 ≤ (10 : Int))))) && ((decide ((0 : Int) ≤ x1)) && (decide (x1 ≤ (10 : Int))))) && ((decide ((0 : Int) ≤ x2)) && (decide (x2 ≤ (10 : Int))))))
  (h2 : y3 = (if (!(decide (y1 = (0 : Int)))) = true then y1 else (if (!(decide ((if (!q2) = true then (3 : Int) else (0 : Int)) = (0 : Int)))) = true then (if (!q2) = true then (3 : Int) else (0 : Int)) else (0 : Int))))
  (h3 : y5 = (if (p3 && (!((decide ((-1000000 : Int) ≤ x6)) && (decide (x6 ≤ (1000000 : Int)))))) = true then (1 : Int) else (0 : Int)))
  (h4 : y6 = (if (!(decide (y3 = (0 : Int)))) = true then y3 else (if (!(decide (y5 = (0 : Int)))) = true then y5 else (0 : Int))))
  (h5 : y8 = (if (p4 && (!((decide ((-1000000 : Int) ≤ x7)) && (decide (x7 ≤ (1000000 : Int)))))) = true then (1 : Int) else (0 : Int)))
  (h6 : y9 = (if (!(decide (y6 = (0 : Int)))) = true then y6 else (if (!(decide (y8 = (0 : Int)))) = true then y8 else (0 : Int))))
  (h7 : y11 = (if (p5 && (!((decide ((-1000000 : Int) ≤ x8)) && (decide (x8 ≤ (1000000 : Int)))))) = true then (1 : Int) else (0 : Int)))
  (h8 : y12 = (if (!(decide (y9 = (0 : Int)))) = true then y9 else (if (!(decide (y11 = (0 : Int)))) = true then y11 else (0 : Int)))) :
  ((!(decide (y12 = (0 : Int)))) || ((decide ((1 : Int) ≤ x5)) && (decide (x5 ≤ (10 : Int))))) = true := by
  cases p3 <;> cases p4 <;> cases p5 <;> simp only [Bool.true_and, Bool.false_and, Bool.and_true, Bool.and_false, Bool.false_eq_true, if_false, Bool.not_eq_true', decide_eq_true_eq, decide_eq_false_iff_not, Bool.or_eq_true, Bool.and_eq_true] at * <;> grind
set_option maxHeartbeats 4000000 in
theorem vote_v6 {y1 x4 x5 x3 x0 x1 x2 y3 y5 x6 y6 y8 x7 y9 y11 x8 y12 : Int} {q2 p3 p4 p5 : Bool}
  (h0 : y1 = (if ((!((decide ((0 : Int) ≤ x4)) && (decide (x4 ≤ (1000000 : Int))))) || (!((decide ((1 : Int) ≤ x5)) && (decide (x5 ≤ (10 : Int)))))) = true then (1 : Int) else (0 : Int)))
  (h1 : q2 = (((((decide ((-1000000 : Int) ≤ x3)) && (decide (x3 ≤ (1000000 : Int)))) && ((decide ((0 : Int) ≤ x0)) && (decide (x0 ≤ (10 : Int))))) && ((decide ((0 : Int) ≤ x1)) && (decide (x1 ≤ (10 : Int))))) && ((decide ((0 : Int) ≤ x2)) && (decide (x2 ≤ (10 : Int))))))
  (h2 : y3 = (if (!(decide (y1 = (0 : Int)))) = true then y1 else (if (!(decide ((if (!q2) = true then (3 : Int) else (0 : Int)) = (0 : Int)))) = true then (if (!q2) = true then (3 : Int) else (0 : Int)) else (0 : Int))))
  (h3 : y5 = (if (p3 && (!((decide ((-1000000 : Int) ≤ x6)) && (decide (x6 ≤ (1000000 : Int)))))) = true then (1 : Int) else (0 : Int)))
  (h4 : y6 = (if (!(decide (y3 = (0 : Int)))) = true then y3 else (if (!(decide (y5 = (0 : Int)))) = true then y5 else (0 : Int))))
  (h5 : y8 = (if (p4 && (!((decide ((-1000000 : Int) ≤ x7)) && (decide (x7 ≤ (1000000 : Int)))))) = true then (1 : Int) else (0 : Int)))
  (h6 : y9 = (if (!(decide (y6 = (0 : Int)))) = true then y6 else (if (!(decide (y8 = (0 : Int)))) = true then y8 else (0 : Int))))
  (h7 : y11 = (if (p5 && (!((decide ((-1000000 : Int) ≤ x8)) && (decide (x8 ≤ (1000000 : Int)))))) = true then (1 : Int) else (0 : Int)))
  (h8 : y12 = (if (!(decide (y9 = (0 : Int)))) = true then y9 else (if (!(decide (y11 = (0 : Int)))) = true then y11 else (0 : Int)))) :
  ((!(decide (y12 = (0 : Int)))) || ((!p3) || ((decide ((-1000000 : Int) ≤ x6)) && (decide (x6 ≤ (1000000 : Int)))))) = true := by
  cases p3 <;> cases p4 <;> cases p5 <;> simp only [Bool.true_and, Bool.false_and, Bool.and_true, Bool.and_false, Bool.false_eq_true, if_false, Bool.not_eq_true', decide_eq_true_eq, decide_eq_false_iff_not, Bool.or_eq_true, Bool.and_eq_true] at * <;> grind
set_option maxHeartbeats 4000000 in
theorem vote_v7 {y1 x4 x5 x3 x0 x1 x2 y3 y5 x6 y6 y8 x7 y9 y11 x8 y12 : Int} {q2 p3 p4 p5 : Bool}
  (h0 : y1 = (if ((!((decide ((0 : Int) ≤ x4)) && (decide (x4 ≤ (1000000 : Int))))) || (!((decide ((1 : Int) ≤ x5)) && (decide (x5 ≤ (10 : Int)))))) = true then (1 : Int) else (0 : Int)))
  (h1 : q2 = (((((decide ((-1000000 : Int) ≤ x3)) && (decide (x3 ≤ (1000000 : Int)))) && ((decide ((0 : Int) ≤ x0)) && (decide (x0 ≤ (10 : Int))))) && ((decide ((0 : Int) ≤ x1)) && (decide (x1 ≤ (10 : Int))))) && ((decide ((0 : Int) ≤ x2)) && (decide (x2 ≤ (10 : Int))))))
  (h2 : y3 = (if (!(decide (y1 = (0 : Int)))) = true then y1 else (if (!(decide ((if (!q2) = true then (3 : Int) else (0 : Int)) = (0 : Int)))) = true then (if (!q2) = true then (3 : Int) else (0 : Int)) else (0 : Int))))
  (h3 : y5 = (if (p3 && (!((decide ((-1000000 : Int) ≤ x6)) && (decide (x6 ≤ (1000000 : Int)))))) = true then (1 : Int) else (0 : Int)))
  (h4 : y6 = (if (!(decide (y3 = (0 : Int)))) = true then y3 else (if (!(decide (y5 = (0 : Int)))) = true then y5 else (0 : Int))))
  (h5 : y8 = (if (p4 && (!((decide ((-1000000 : Int) ≤ x7)) && (decide (x7 ≤ (1000000 : Int)))))) = true then (1 : Int) else (0 : Int)))
  (h6 : y9 = (if (!(decide (y6 = (0 : Int)))) = true then y6 else (if (!(decide (y8 = (0 : Int)))) = true then y8 else (0 : Int))))
  (h7 : y11 = (if (p5 && (!((decide ((-1000000 : Int) ≤ x8)) && (decide (x8 ≤ (1000000 : Int)))))) = true then (1 : Int) else (0 : Int)))
  (h8 : y12 = (if (!(decide (y9 = (0 : Int)))) = true then y9 else (if (!(decide (y11 = (0 : Int)))) = true then y11 else (0 : Int)))) :
  ((!(decide (y12 = (0 : Int)))) || ((!p4) || ((decide ((-1000000 : Int) ≤ x7)) && (decide (x7 ≤ (1000000 : Int)))))) = true := by
  cases p3 <;> cases p4 <;> cases p5 <;> simp only [Bool.true_and, Bool.false_and, Bool.and_true, Bool.and_false, Bool.false_eq_true, if_false, Bool.not_eq_true', decide_eq_true_eq, decide_eq_false_iff_not, Bool.or_eq_true, Bool.and_eq_true] at * <;> grind
set_option maxHeartbeats 4000000 in
theorem vote_v8 {y1 x4 x5 x3 x0 x1 x2 y3 y5 x6 y6 y8 x7 y9 y11 x8 y12 : Int} {q2 p3 p4 p5 : Bool}
  (h0 : y1 = (if ((!((decide ((0 : Int) ≤ x4)) && (decide (x4 ≤ (1000000 : Int))))) || (!((decide ((1 : Int) ≤ x5)) && (decide (x5 ≤ (10 : Int)))))) = true then (1 : Int) else (0 : Int)))
  (h1 : q2 = (((((decide ((-1000000 : Int) ≤ x3)) && (decide (x3 ≤ (1000000 : Int)))) && ((decide ((0 : Int) ≤ x0)) && (decide (x0 ≤ (10 : Int))))) && ((decide ((0 : Int) ≤ x1)) && (decide (x1 ≤ (10 : Int))))) && ((decide ((0 : Int) ≤ x2)) && (decide (x2 ≤ (10 : Int))))))
  (h2 : y3 = (if (!(decide (y1 = (0 : Int)))) = true then y1 else (if (!(decide ((if (!q2) = true then (3 : Int) else (0 : Int)) = (0 : Int)))) = true then (if (!q2) = true then (3 : Int) else (0 : Int)) else (0 : Int))))
  (h3 : y5 = (if (p3 && (!((decide ((-1000000 : Int) ≤ x6)) && (decide (x6 ≤ (1000000 : Int)))))) = true then (1 : Int) else (0 : Int)))
  (h4 : y6 = (if (!(decide (y3 = (0 : Int)))) = true then y3 else (if (!(decide (y5 = (0 : Int)))) = true then y5 else (0 : Int))))
  (h5 : y8 = (if (p4 && (!((decide ((-1000000 : Int) ≤ x7)) && (decide (x7 ≤ (1000000 : Int)))))) = true then (1 : Int) else (0 : Int)))
  (h6 : y9 = (if (!(decide (y6 = (0 : Int)))) = true then y6 else (if (!(decide (y8 = (0 : Int)))) = true then y8 else (0 : Int))))
  (h7 : y11 = (if (p5 && (!((decide ((-1000000 : Int) ≤ x8)) && (decide (x8 ≤ (1000000 : Int)))))) = true then (1 : Int) else (0 : Int)))
  (h8 : y12 = (if (!(decide (y9 = (0 : Int)))) = true then y9 else (if (!(decide (y11 = (0 : Int)))) = true then y11 else (0 : Int)))) :
  ((!(decide (y12 = (0 : Int)))) || ((!p5) || ((decide ((-1000000 : Int) ≤ x8)) && (decide (x8 ≤ (1000000 : Int)))))) = true := by
  cases p3 <;> cases p4 <;> cases p5 <;> simp only [Bool.true_and, Bool.false_and, Bool.and_true, Bool.and_false, Bool.false_eq_true, if_false, Bool.not_eq_true', decide_eq_true_eq, decide_eq_false_iff_not, Bool.or_eq_true, Bool.and_eq_true] at * <;> grind
end Go.Proofs.Ytdfpenjhpemokaa.Sx
