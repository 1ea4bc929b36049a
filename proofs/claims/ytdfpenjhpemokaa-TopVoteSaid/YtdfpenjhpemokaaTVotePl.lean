/-
  The law TopVote: its parts, in plain numbers. Written by a program of ours (wip/dev/sx), but for the proofs.
-/
import Derived.IntWalk
set_option linter.unusedVariables false
set_option linter.unusedSimpArgs false
namespace Go.Proofs.Ytdfpenjhpemokaa.Sx
set_option maxHeartbeats 4000000 in
theorem tv_0 {f1000_x13_ f1001_x13_ f1002_x13_ f1003_x13_ f1005_x13_ x0 x1 x12 x13 x20 x21 x22 x23 x4 x5 x6 y0 y1 y15 y17 y19 y2 y24 y26 y28 y3 y30 y32 y34 y36 y38 y4 y40 y42 y43 y44 y45 y46 y5 y51 y52 : Int} {g1004_x13_ p20 p21 p22 q10 q11 q12 q13 q14 q16 q18 q20 q21 q22 q23 q25 q27 q29 q31 q33 q35 q37 q39 q41 q47 q48 q49 q50 q53 q6 q7 q8 q9 : Bool}
  (h0 : y0 = ((min (max f1000_x13_ (-900000 : Int)) (900000 : Int)) + (min (max f1001_x13_ ((0 : Int) - x6)) x6)))
  (h1 : y1 = (if (decide ((0 : Int) = x5)) = true then (min (max f1005_x13_ (-1000000 : Int)) (1000000 : Int)) else y0))
  (h2 : y2 = ((min (max f1000_x13_ (-900000 : Int)) (900000 : Int)) + (min (max f1002_x13_ ((0 : Int) - x6)) x6)))
  (h3 : y3 = (if (decide ((1 : Int) = x5)) = true then (min (max f1005_x13_ (-1000000 : Int)) (1000000 : Int)) else y2))
  (h4 : y4 = ((min (max f1000_x13_ (-900000 : Int)) (900000 : Int)) + (min (max f1003_x13_ ((0 : Int) - x6)) x6)))
  (h5 : y5 = (if (decide ((2 : Int) = x5)) = true then (min (max f1005_x13_ (-1000000 : Int)) (1000000 : Int)) else y4))
  (h6 : q6 = ((((!(decide ((0 : Int) = x5))) || g1004_x13_) && (decide ((y1 - (max (min y1 y3) (min (max y1 y3) y5))) ≤ x0))) && (decide (((max (min y1 y3) (min (max y1 y3) y5)) - y1) ≤ x0))))
  (h7 : q7 = ((((!(decide ((1 : Int) = x5))) || g1004_x13_) && (decide ((y3 - (max (min y1 y3) (min (max y1 y3) y5))) ≤ x0))) && (decide (((max (min y1 y3) (min (max y1 y3) y5)) - y3) ≤ x0))))
  (h8 : q8 = ((((!(decide ((2 : Int) = x5))) || g1004_x13_) && (decide ((y5 - (max (min y1 y3) (min (max y1 y3) y5))) ≤ x0))) && (decide (((max (min y1 y3) (min (max y1 y3) y5)) - y5) ≤ x0))))
  (h9 : q9 = ((((!(decide ((0 : Int) = x5))) || g1004_x13_) && (decide ((y1 - ((y1 + y3) / (2 : Int))) ≤ x0))) && (decide ((((y1 + y3) / (2 : Int)) - y1) ≤ x0))))
  (h10 : q10 = ((((!(decide ((1 : Int) = x5))) || g1004_x13_) && (decide ((y3 - ((y1 + y3) / (2 : Int))) ≤ x0))) && (decide ((((y1 + y3) / (2 : Int)) - y3) ≤ x0))))
  (h11 : q11 = ((((!(decide ((2 : Int) = x5))) || g1004_x13_) && (decide ((y5 - ((y1 + y3) / (2 : Int))) ≤ x0))) && (decide ((((y1 + y3) / (2 : Int)) - y5) ≤ x0))))
  (h12 : q12 = ((((!(decide ((0 : Int) = x5))) || g1004_x13_) && (decide ((y1 - ((y1 + y5) / (2 : Int))) ≤ x0))) && (decide ((((y1 + y5) / (2 : Int)) - y1) ≤ x0))))
  (h13 : q13 = ((((!(decide ((1 : Int) = x5))) || g1004_x13_) && (decide ((y3 - ((y1 + y5) / (2 : Int))) ≤ x0))) && (decide ((((y1 + y5) / (2 : Int)) - y3) ≤ x0))))
  (h14 : q14 = ((((!(decide ((2 : Int) = x5))) || g1004_x13_) && (decide ((y5 - ((y1 + y5) / (2 : Int))) ≤ x0))) && (decide ((((y1 + y5) / (2 : Int)) - y5) ≤ x0))))
  (h15 : y15 = (if p20 = true then x20 else (if ((((!(decide ((0 : Int) = x5))) || g1004_x13_) && (decide ((0 : Int) ≤ x0))) && (decide ((0 : Int) ≤ x0))) = true then (0 : Int) else (min (x20 + (1 : Int)) (10 : Int)))))
  (h16 : q16 = (p20 || ((!((((!(decide ((0 : Int) = x5))) || g1004_x13_) && (decide ((0 : Int) ≤ x0))) && (decide ((0 : Int) ≤ x0)))) && (decide (x1 ≤ (min (x20 + (1 : Int)) (10 : Int)))))))
  (h17 : y17 = (if p21 = true then x21 else (if ((((!(decide ((1 : Int) = x5))) || g1004_x13_) && (decide ((y3 - y1) ≤ x0))) && (decide ((y1 - y3) ≤ x0))) = true then (0 : Int) else (min (x21 + (1 : Int)) (10 : Int)))))
  (h18 : q18 = (p21 || ((!((((!(decide ((1 : Int) = x5))) || g1004_x13_) && (decide ((y3 - y1) ≤ x0))) && (decide ((y1 - y3) ≤ x0)))) && (decide (x1 ≤ (min (x21 + (1 : Int)) (10 : Int)))))))
  (h19 : y19 = (if p22 = true then x22 else (if ((((!(decide ((2 : Int) = x5))) || g1004_x13_) && (decide ((y5 - y1) ≤ x0))) && (decide ((y1 - y5) ≤ x0))) = true then (0 : Int) else (min (x22 + (1 : Int)) (10 : Int)))))
  (h20 : q20 = (p22 || ((!((((!(decide ((2 : Int) = x5))) || g1004_x13_) && (decide ((y5 - y1) ≤ x0))) && (decide ((y1 - y5) ≤ x0)))) && (decide (x1 ≤ (min (x22 + (1 : Int)) (10 : Int)))))))
  (h21 : q21 = ((((!(decide ((0 : Int) = x5))) || g1004_x13_) && (decide ((y1 - ((y3 + y5) / (2 : Int))) ≤ x0))) && (decide ((((y3 + y5) / (2 : Int)) - y1) ≤ x0))))
  (h22 : q22 = ((((!(decide ((1 : Int) = x5))) || g1004_x13_) && (decide ((y3 - ((y3 + y5) / (2 : Int))) ≤ x0))) && (decide ((((y3 + y5) / (2 : Int)) - y3) ≤ x0))))
  (h23 : q23 = ((((!(decide ((2 : Int) = x5))) || g1004_x13_) && (decide ((y5 - ((y3 + y5) / (2 : Int))) ≤ x0))) && (decide ((((y3 + y5) / (2 : Int)) - y5) ≤ x0))))
  (h24 : y24 = (if p20 = true then x20 else (if ((((!(decide ((0 : Int) = x5))) || g1004_x13_) && (decide ((y1 - y3) ≤ x0))) && (decide ((y3 - y1) ≤ x0))) = true then (0 : Int) else (min (x20 + (1 : Int)) (10 : Int)))))
  (h25 : q25 = (p20 || ((!((((!(decide ((0 : Int) = x5))) || g1004_x13_) && (decide ((y1 - y3) ≤ x0))) && (decide ((y3 - y1) ≤ x0)))) && (decide (x1 ≤ (min (x20 + (1 : Int)) (10 : Int)))))))
  (h26 : y26 = (if p21 = true then x21 else (if ((((!(decide ((1 : Int) = x5))) || g1004_x13_) && (decide ((0 : Int) ≤ x0))) && (decide ((0 : Int) ≤ x0))) = true then (0 : Int) else (min (x21 + (1 : Int)) (10 : Int)))))
  (h27 : q27 = (p21 || ((!((((!(decide ((1 : Int) = x5))) || g1004_x13_) && (decide ((0 : Int) ≤ x0))) && (decide ((0 : Int) ≤ x0)))) && (decide (x1 ≤ (min (x21 + (1 : Int)) (10 : Int)))))))
  (h28 : y28 = (if p22 = true then x22 else (if ((((!(decide ((2 : Int) = x5))) || g1004_x13_) && (decide ((y5 - y3) ≤ x0))) && (decide ((y3 - y5) ≤ x0))) = true then (0 : Int) else (min (x22 + (1 : Int)) (10 : Int)))))
  (h29 : q29 = (p22 || ((!((((!(decide ((2 : Int) = x5))) || g1004_x13_) && (decide ((y5 - y3) ≤ x0))) && (decide ((y3 - y5) ≤ x0)))) && (decide (x1 ≤ (min (x22 + (1 : Int)) (10 : Int)))))))
  (h30 : y30 = (if p20 = true then x20 else (if ((((!(decide ((0 : Int) = x5))) || g1004_x13_) && (decide ((y1 - y5) ≤ x0))) && (decide ((y5 - y1) ≤ x0))) = true then (0 : Int) else (min (x20 + (1 : Int)) (10 : Int)))))
  (h31 : q31 = (p20 || ((!((((!(decide ((0 : Int) = x5))) || g1004_x13_) && (decide ((y1 - y5) ≤ x0))) && (decide ((y5 - y1) ≤ x0)))) && (decide (x1 ≤ (min (x20 + (1 : Int)) (10 : Int)))))))
  (h32 : y32 = (if p21 = true then x21 else (if ((((!(decide ((1 : Int) = x5))) || g1004_x13_) && (decide ((y3 - y5) ≤ x0))) && (decide ((y5 - y3) ≤ x0))) = true then (0 : Int) else (min (x21 + (1 : Int)) (10 : Int)))))
  (h33 : q33 = (p21 || ((!((((!(decide ((1 : Int) = x5))) || g1004_x13_) && (decide ((y3 - y5) ≤ x0))) && (decide ((y5 - y3) ≤ x0)))) && (decide (x1 ≤ (min (x21 + (1 : Int)) (10 : Int)))))))
  (h34 : y34 = (if p22 = true then x22 else (if ((((!(decide ((2 : Int) = x5))) || g1004_x13_) && (decide ((0 : Int) ≤ x0))) && (decide ((0 : Int) ≤ x0))) = true then (0 : Int) else (min (x22 + (1 : Int)) (10 : Int)))))
  (h35 : q35 = (p22 || ((!((((!(decide ((2 : Int) = x5))) || g1004_x13_) && (decide ((0 : Int) ≤ x0))) && (decide ((0 : Int) ≤ x0)))) && (decide (x1 ≤ (min (x22 + (1 : Int)) (10 : Int)))))))
  (h36 : y36 = (if p20 = true then x20 else (if ((((!(decide ((0 : Int) = x5))) || g1004_x13_) && (decide ((y1 - x23) ≤ x0))) && (decide ((x23 - y1) ≤ x0))) = true then (0 : Int) else (min (x20 + (1 : Int)) (10 : Int)))))
  (h37 : q37 = (p20 || ((!((((!(decide ((0 : Int) = x5))) || g1004_x13_) && (decide ((y1 - x23) ≤ x0))) && (decide ((x23 - y1) ≤ x0)))) && (decide (x1 ≤ (min (x20 + (1 : Int)) (10 : Int)))))))
  (h38 : y38 = (if p21 = true then x21 else (if ((((!(decide ((1 : Int) = x5))) || g1004_x13_) && (decide ((y3 - x23) ≤ x0))) && (decide ((x23 - y3) ≤ x0))) = true then (0 : Int) else (min (x21 + (1 : Int)) (10 : Int)))))
  (h39 : q39 = (p21 || ((!((((!(decide ((1 : Int) = x5))) || g1004_x13_) && (decide ((y3 - x23) ≤ x0))) && (decide ((x23 - y3) ≤ x0)))) && (decide (x1 ≤ (min (x21 + (1 : Int)) (10 : Int)))))))
  (h40 : y40 = (if p22 = true then x22 else (if ((((!(decide ((2 : Int) = x5))) || g1004_x13_) && (decide ((y5 - x23) ≤ x0))) && (decide ((x23 - y5) ≤ x0))) = true then (0 : Int) else (min (x22 + (1 : Int)) (10 : Int)))))
  (h41 : q41 = (p22 || ((!((((!(decide ((2 : Int) = x5))) || g1004_x13_) && (decide ((y5 - x23) ≤ x0))) && (decide ((x23 - y5) ≤ x0)))) && (decide (x1 ≤ (min (x22 + (1 : Int)) (10 : Int)))))))
  (h42 : y42 = (if (((!(decide ((0 : Int) = x5))) || g1004_x13_) && (!p20)) = true then (if (((!(decide ((1 : Int) = x5))) || g1004_x13_) && (!p21)) = true then (if (((!(decide ((2 : Int) = x5))) || g1004_x13_) && (!p22)) = true then (max (min y1 y3) (min (max y1 y3) y5)) else ((y1 + y3) / (2 : Int))) else (if (((!(decide ((2 : Int) = x5))) || g1004_x13_) && (!p22)) = true then ((y1 + y5) / (2 : Int)) else y1)) else (if (((!(decide ((1 : Int) = x5))) || g1004_x13_) && (!p21)) = true then (if (((!(decide ((2 : Int) = x5))) || g1004_x13_) && (!p22)) = true then ((y3 + y5) / (2 : Int)) else y3) else (if (((!(decide ((2 : Int) = x5))) || g1004_x13_) && (!p22)) = true then y5 else x23))))
  (h43 : y43 = (if (((!(decide ((0 : Int) = x5))) || g1004_x13_) && (!p20)) = true then (if (((!(decide ((1 : Int) = x5))) || g1004_x13_) && (!p21)) = true then (if (((!(decide ((2 : Int) = x5))) || g1004_x13_) && (!p22)) = true then (3 : Int) else (2 : Int)) else (if (((!(decide ((2 : Int) = x5))) || g1004_x13_) && (!p22)) = true then (2 : Int) else (1 : Int))) else (if (((!(decide ((1 : Int) = x5))) || g1004_x13_) && (!p21)) = true then (if (((!(decide ((2 : Int) = x5))) || g1004_x13_) && (!p22)) = true then (2 : Int) else (1 : Int)) else (if (((!(decide ((2 : Int) = x5))) || g1004_x13_) && (!p22)) = true then (1 : Int) else (0 : Int)))))
  (h44 : y44 = (if (((!(decide ((0 : Int) = x5))) || g1004_x13_) && (!p20)) = true then (if (((!(decide ((1 : Int) = x5))) || g1004_x13_) && (!p21)) = true then (if (((!(decide ((2 : Int) = x5))) || g1004_x13_) && (!p22)) = true then (if p20 = true then x20 else (if q6 = true then (0 : Int) else (min (x20 + (1 : Int)) (10 : Int)))) else (if p20 = true then x20 else (if q9 = true then (0 : Int) else (min (x20 + (1 : Int)) (10 : Int))))) else (if (((!(decide ((2 : Int) = x5))) || g1004_x13_) && (!p22)) = true then (if p20 = true then x20 else (if q12 = true then (0 : Int) else (min (x20 + (1 : Int)) (10 : Int)))) else y15)) else (if (((!(decide ((1 : Int) = x5))) || g1004_x13_) && (!p21)) = true then (if (((!(decide ((2 : Int) = x5))) || g1004_x13_) && (!p22)) = true then (if p20 = true then x20 else (if q21 = true then (0 : Int) else (min (x20 + (1 : Int)) (10 : Int)))) else y24) else (if (((!(decide ((2 : Int) = x5))) || g1004_x13_) && (!p22)) = true then y30 else y36))))
  (h45 : y45 = (if (((!(decide ((0 : Int) = x5))) || g1004_x13_) && (!p20)) = true then (if (((!(decide ((1 : Int) = x5))) || g1004_x13_) && (!p21)) = true then (if (((!(decide ((2 : Int) = x5))) || g1004_x13_) && (!p22)) = true then (if p21 = true then x21 else (if q7 = true then (0 : Int) else (min (x21 + (1 : Int)) (10 : Int)))) else (if p21 = true then x21 else (if q10 = true then (0 : Int) else (min (x21 + (1 : Int)) (10 : Int))))) else (if (((!(decide ((2 : Int) = x5))) || g1004_x13_) && (!p22)) = true then (if p21 = true then x21 else (if q13 = true then (0 : Int) else (min (x21 + (1 : Int)) (10 : Int)))) else y17)) else (if (((!(decide ((1 : Int) = x5))) || g1004_x13_) && (!p21)) = true then (if (((!(decide ((2 : Int) = x5))) || g1004_x13_) && (!p22)) = true then (if p21 = true then x21 else (if q22 = true then (0 : Int) else (min (x21 + (1 : Int)) (10 : Int)))) else y26) else (if (((!(decide ((2 : Int) = x5))) || g1004_x13_) && (!p22)) = true then y32 else y38))))
  (h46 : y46 = (if (((!(decide ((0 : Int) = x5))) || g1004_x13_) && (!p20)) = true then (if (((!(decide ((1 : Int) = x5))) || g1004_x13_) && (!p21)) = true then (if (((!(decide ((2 : Int) = x5))) || g1004_x13_) && (!p22)) = true then (if p22 = true then x22 else (if q8 = true then (0 : Int) else (min (x22 + (1 : Int)) (10 : Int)))) else (if p22 = true then x22 else (if q11 = true then (0 : Int) else (min (x22 + (1 : Int)) (10 : Int))))) else (if (((!(decide ((2 : Int) = x5))) || g1004_x13_) && (!p22)) = true then (if p22 = true then x22 else (if q14 = true then (0 : Int) else (min (x22 + (1 : Int)) (10 : Int)))) else y19)) else (if (((!(decide ((1 : Int) = x5))) || g1004_x13_) && (!p21)) = true then (if (((!(decide ((2 : Int) = x5))) || g1004_x13_) && (!p22)) = true then (if p22 = true then x22 else (if q23 = true then (0 : Int) else (min (x22 + (1 : Int)) (10 : Int)))) else y28) else (if (((!(decide ((2 : Int) = x5))) || g1004_x13_) && (!p22)) = true then y34 else y40))))
  (h47 : q47 = (if (((!(decide ((0 : Int) = x5))) || g1004_x13_) && (!p20)) = true then (if (((!(decide ((1 : Int) = x5))) || g1004_x13_) && (!p21)) = true then (if (((!(decide ((2 : Int) = x5))) || g1004_x13_) && (!p22)) = true then (p20 || ((!q6) && (decide (x1 ≤ (min (x20 + (1 : Int)) (10 : Int)))))) else (p20 || ((!q9) && (decide (x1 ≤ (min (x20 + (1 : Int)) (10 : Int))))))) else (if (((!(decide ((2 : Int) = x5))) || g1004_x13_) && (!p22)) = true then (p20 || ((!q12) && (decide (x1 ≤ (min (x20 + (1 : Int)) (10 : Int)))))) else q16)) else (if (((!(decide ((1 : Int) = x5))) || g1004_x13_) && (!p21)) = true then (if (((!(decide ((2 : Int) = x5))) || g1004_x13_) && (!p22)) = true then (p20 || ((!q21) && (decide (x1 ≤ (min (x20 + (1 : Int)) (10 : Int)))))) else q25) else (if (((!(decide ((2 : Int) = x5))) || g1004_x13_) && (!p22)) = true then q31 else q37))))
  (h48 : q48 = (if (((!(decide ((0 : Int) = x5))) || g1004_x13_) && (!p20)) = true then (if (((!(decide ((1 : Int) = x5))) || g1004_x13_) && (!p21)) = true then (if (((!(decide ((2 : Int) = x5))) || g1004_x13_) && (!p22)) = true then (p21 || ((!q7) && (decide (x1 ≤ (min (x21 + (1 : Int)) (10 : Int)))))) else (p21 || ((!q10) && (decide (x1 ≤ (min (x21 + (1 : Int)) (10 : Int))))))) else (if (((!(decide ((2 : Int) = x5))) || g1004_x13_) && (!p22)) = true then (p21 || ((!q13) && (decide (x1 ≤ (min (x21 + (1 : Int)) (10 : Int)))))) else q18)) else (if (((!(decide ((1 : Int) = x5))) || g1004_x13_) && (!p21)) = true then (if (((!(decide ((2 : Int) = x5))) || g1004_x13_) && (!p22)) = true then (p21 || ((!q22) && (decide (x1 ≤ (min (x21 + (1 : Int)) (10 : Int)))))) else q27) else (if (((!(decide ((2 : Int) = x5))) || g1004_x13_) && (!p22)) = true then q33 else q39))))
  (h49 : q49 = (if (((!(decide ((0 : Int) = x5))) || g1004_x13_) && (!p20)) = true then (if (((!(decide ((1 : Int) = x5))) || g1004_x13_) && (!p21)) = true then (if (((!(decide ((2 : Int) = x5))) || g1004_x13_) && (!p22)) = true then (p22 || ((!q8) && (decide (x1 ≤ (min (x22 + (1 : Int)) (10 : Int)))))) else (p22 || ((!q11) && (decide (x1 ≤ (min (x22 + (1 : Int)) (10 : Int))))))) else (if (((!(decide ((2 : Int) = x5))) || g1004_x13_) && (!p22)) = true then (p22 || ((!q14) && (decide (x1 ≤ (min (x22 + (1 : Int)) (10 : Int)))))) else q20)) else (if (((!(decide ((1 : Int) = x5))) || g1004_x13_) && (!p21)) = true then (if (((!(decide ((2 : Int) = x5))) || g1004_x13_) && (!p22)) = true then (p22 || ((!q23) && (decide (x1 ≤ (min (x22 + (1 : Int)) (10 : Int)))))) else q29) else (if (((!(decide ((2 : Int) = x5))) || g1004_x13_) && (!p22)) = true then q35 else q41))))
  (h50 : q50 = ((decide (((min (max f1000_x13_ (-900000 : Int)) (900000 : Int)) - x6) ≤ y42)) && (decide (y42 ≤ ((min (max f1000_x13_ (-900000 : Int)) (900000 : Int)) + x6)))))
  (h51 : y51 = (((min (max f1000_x13_ (-900000 : Int)) (900000 : Int)) - x0) - x6))
  (h52 : y52 = (((min (max f1000_x13_ (-900000 : Int)) (900000 : Int)) + x0) + x6))
  (h53 : q53 = (g1004_x13_ && ((decide (y51 ≤ (min (max f1005_x13_ (-1000000 : Int)) (1000000 : Int)))) && (decide ((min (max f1005_x13_ (-1000000 : Int)) (1000000 : Int)) ≤ y52)))))
  (c0 : (!q50) = true)
  (c1 : (decide (x13 < x4)) = true)
  (i0 : 0 ≤ x0 ∧ x0 ≤ 1000000)
  (i1 : 1 ≤ x1 ∧ x1 ≤ 10)
  (i2 : 0 ≤ x4 ∧ x4 ≤ 100)
  (i3 : 0 ≤ x5 ∧ x5 ≤ 3)
  (i4 : 0 ≤ x6 ∧ x6 ≤ 1000)
  (i5 : 2 * x6 ≤ x0)
  (i6 : 0 ≤ x12 ∧ x12 ≤ x13)
  (i7 : 0 ≤ x13 ∧ x13 ≤ 100)
  (i8 : 0 ≤ x20 ∧ x20 ≤ 10)
  (i9 : 0 ≤ x21 ∧ x21 ≤ 10)
  (i10 : 0 ≤ x22 ∧ x22 ≤ 10)
  (i11 : -1000000 ≤ x23 ∧ x23 ≤ 1000000)
  (i12 : p20 = true → x5 = 0)
  (i13 : p21 = true → x5 = 1)
  (i14 : p22 = true → x5 = 2)
  (i15 : x5 = 0 → p20 = false → x12 ≤ x20 ∧ x20 < x1)
  (i16 : x5 = 1 → p21 = false → x12 ≤ x21 ∧ x21 < x1)
  (i17 : x5 = 2 → p22 = false → x12 ≤ x22 ∧ x22 < x1)
  : False := by
  have k5 : x5 = 0 ∨ x5 = 1 ∨ x5 = 2 ∨ x5 = 3 := by omega
  obtain ⟨a0, a1⟩ := i0; obtain ⟨a2, a3⟩ := i1; obtain ⟨a4, a5⟩ := i4; obtain ⟨a6, a7⟩ := i6; obtain ⟨a8, a9⟩ := i7; obtain ⟨b0, b1⟩ := i8; obtain ⟨b2, b3⟩ := i9; obtain ⟨b4, b5⟩ := i10; obtain ⟨b6, b7⟩ := i11
  generalize ht : min (max f1000_x13_ (-900000)) 900000 = t at *
  have t1 : -900000 ≤ t := by omega
  have t2 : t ≤ 900000 := by omega
  clear ht
  generalize hl : min (max f1005_x13_ (-1000000)) 1000000 = l at *
  have l1 : -1000000 ≤ l := by omega
  have l2 : l ≤ 1000000 := by omega
  clear hl
  generalize hy0 : min (max f1001_x13_ (0 - x6)) x6 = d0 at *
  have d01 : -x6 ≤ d0 := by omega
  have d02 : d0 ≤ x6 := by omega
  clear hy0
  generalize hy1 : min (max f1002_x13_ (0 - x6)) x6 = d1 at *
  have d11 : -x6 ≤ d1 := by omega
  have d12 : d1 ≤ x6 := by omega
  clear hy1
  generalize hy2 : min (max f1003_x13_ (0 - x6)) x6 = d2 at *
  have d21 : -x6 ≤ d2 := by omega
  have d22 : d2 ≤ x6 := by omega
  clear hy2
  rcases k5 with k5 | k5 | k5 | k5 <;> subst k5
  · have z1 : p21 = false := by cases p21 with | false => rfl | true => exact absurd (i13 rfl) (by omega)
    have z2 : p22 = false := by cases p22 with | false => rfl | true => exact absurd (i14 rfl) (by omega)
    have ii := i15 rfl
    clear i12 i13 i14 i15 i16 i17
    subst z1; subst z2
    simp only [Int.reduceEq, decide_true, decide_false, Bool.not_true, Bool.not_false, Bool.true_or, Bool.false_or, Bool.true_and, Bool.false_and, Bool.and_true, Bool.and_false, Bool.or_false, if_true, if_false, Bool.false_eq_true, Int.zero_le_ofNat] at h0 h1 h2 h3 h4 h5 h6 h7 h8 h9 h10 h11 h12 h13 h14 h15 h16 h17 h18 h19 h20 h21 h22 h23 h24 h25 h26 h27 h28 h29 h30 h31 h32 h33 h34 h35 h36 h37 h38 h39 h40 h41 h42 h43 h44 h45 h46 h47 h48 h49 h50 h51 h52 h53 c0
    subst h53 h52 h51 h50 h49 h48 h47 h46 h45 h44 h43 h42 h41 h40 h39 h38 h37 h36 h35 h34 h33 h32 h31 h30 h29 h28 h27 h26 h25 h24 h23 h22 h21 h20 h19 h18 h17 h16 h15 h14 h13 h12 h11 h10 h9 h8 h7 h6 h5 h4 h3 h2 h1 h0
    cases p20 <;> cases g1004_x13_ <;> (simp only [Bool.true_and, Bool.false_and, Bool.and_true, Bool.and_false, Bool.false_eq_true, if_false, if_true, Bool.not_true, Bool.not_false, Bool.not_eq_true', decide_eq_true_eq, decide_eq_false_iff_not, Bool.or_eq_true, Bool.and_eq_true, Bool.false_or, Bool.true_or, Bool.or_false, Bool.or_true, false_or, true_or, or_false, or_true, true_implies, forall_const, false_implies, Int.reduceEq, Int.reduceLE, Int.reduceLT, decide_true, decide_false, Bool.not_eq_false', Bool.true_eq_false, and_true, true_and, false_and, and_false, not_true, not_false_iff, ite_true, ite_false, Bool.if_false_left, imp_self] at * <;> (try omega) <;> (try simp only [Bool.and_eq_false_iff, Bool.or_eq_false_iff, decide_eq_false_iff_not, Bool.not_eq_true', decide_eq_true_eq] at *) <;> (try omega) <;> grind)
  · have z0 : p20 = false := by cases p20 with | false => rfl | true => exact absurd (i12 rfl) (by omega)
    have z2 : p22 = false := by cases p22 with | false => rfl | true => exact absurd (i14 rfl) (by omega)
    have ii := i16 rfl
    clear i12 i13 i14 i15 i16 i17
    subst z0; subst z2
    simp only [Int.reduceEq, decide_true, decide_false, Bool.not_true, Bool.not_false, Bool.true_or, Bool.false_or, Bool.true_and, Bool.false_and, Bool.and_true, Bool.and_false, Bool.or_false, if_true, if_false, Bool.false_eq_true, Int.zero_le_ofNat] at h0 h1 h2 h3 h4 h5 h6 h7 h8 h9 h10 h11 h12 h13 h14 h15 h16 h17 h18 h19 h20 h21 h22 h23 h24 h25 h26 h27 h28 h29 h30 h31 h32 h33 h34 h35 h36 h37 h38 h39 h40 h41 h42 h43 h44 h45 h46 h47 h48 h49 h50 h51 h52 h53 c0
    subst h53 h52 h51 h50 h49 h48 h47 h46 h45 h44 h43 h42 h41 h40 h39 h38 h37 h36 h35 h34 h33 h32 h31 h30 h29 h28 h27 h26 h25 h24 h23 h22 h21 h20 h19 h18 h17 h16 h15 h14 h13 h12 h11 h10 h9 h8 h7 h6 h5 h4 h3 h2 h1 h0
    cases p21 <;> cases g1004_x13_ <;> (simp only [Bool.true_and, Bool.false_and, Bool.and_true, Bool.and_false, Bool.false_eq_true, if_false, if_true, Bool.not_true, Bool.not_false, Bool.not_eq_true', decide_eq_true_eq, decide_eq_false_iff_not, Bool.or_eq_true, Bool.and_eq_true, Bool.false_or, Bool.true_or, Bool.or_false, Bool.or_true, false_or, true_or, or_false, or_true, true_implies, forall_const, false_implies, Int.reduceEq, Int.reduceLE, Int.reduceLT, decide_true, decide_false, Bool.not_eq_false', Bool.true_eq_false, and_true, true_and, false_and, and_false, not_true, not_false_iff, ite_true, ite_false, Bool.if_false_left, imp_self] at * <;> (try omega) <;> (try simp only [Bool.and_eq_false_iff, Bool.or_eq_false_iff, decide_eq_false_iff_not, Bool.not_eq_true', decide_eq_true_eq] at *) <;> (try omega) <;> grind)
  · have z0 : p20 = false := by cases p20 with | false => rfl | true => exact absurd (i12 rfl) (by omega)
    have z1 : p21 = false := by cases p21 with | false => rfl | true => exact absurd (i13 rfl) (by omega)
    have ii := i17 rfl
    clear i12 i13 i14 i15 i16 i17
    subst z0; subst z1
    simp only [Int.reduceEq, decide_true, decide_false, Bool.not_true, Bool.not_false, Bool.true_or, Bool.false_or, Bool.true_and, Bool.false_and, Bool.and_true, Bool.and_false, Bool.or_false, if_true, if_false, Bool.false_eq_true, Int.zero_le_ofNat] at h0 h1 h2 h3 h4 h5 h6 h7 h8 h9 h10 h11 h12 h13 h14 h15 h16 h17 h18 h19 h20 h21 h22 h23 h24 h25 h26 h27 h28 h29 h30 h31 h32 h33 h34 h35 h36 h37 h38 h39 h40 h41 h42 h43 h44 h45 h46 h47 h48 h49 h50 h51 h52 h53 c0
    subst h53 h52 h51 h50 h49 h48 h47 h46 h45 h44 h43 h42 h41 h40 h39 h38 h37 h36 h35 h34 h33 h32 h31 h30 h29 h28 h27 h26 h25 h24 h23 h22 h21 h20 h19 h18 h17 h16 h15 h14 h13 h12 h11 h10 h9 h8 h7 h6 h5 h4 h3 h2 h1 h0
    cases p22 <;> cases g1004_x13_ <;> (simp only [Bool.true_and, Bool.false_and, Bool.and_true, Bool.and_false, Bool.false_eq_true, if_false, if_true, Bool.not_true, Bool.not_false, Bool.not_eq_true', decide_eq_true_eq, decide_eq_false_iff_not, Bool.or_eq_true, Bool.and_eq_true, Bool.false_or, Bool.true_or, Bool.or_false, Bool.or_true, false_or, true_or, or_false, or_true, true_implies, forall_const, false_implies, Int.reduceEq, Int.reduceLE, Int.reduceLT, decide_true, decide_false, Bool.not_eq_false', Bool.true_eq_false, and_true, true_and, false_and, and_false, not_true, not_false_iff, ite_true, ite_false, Bool.if_false_left, imp_self] at * <;> (try omega) <;> (try simp only [Bool.and_eq_false_iff, Bool.or_eq_false_iff, decide_eq_false_iff_not, Bool.not_eq_true', decide_eq_true_eq] at *) <;> (try omega) <;> grind)
  · have z0 : p20 = false := by cases p20 with | false => rfl | true => exact absurd (i12 rfl) (by omega)
    have z1 : p21 = false := by cases p21 with | false => rfl | true => exact absurd (i13 rfl) (by omega)
    have z2 : p22 = false := by cases p22 with | false => rfl | true => exact absurd (i14 rfl) (by omega)
    clear i12 i13 i14 i15 i16 i17
    subst z0; subst z1; subst z2
    simp only [Int.reduceEq, decide_true, decide_false, Bool.not_true, Bool.not_false, Bool.true_or, Bool.false_or, Bool.true_and, Bool.false_and, Bool.and_true, Bool.and_false, Bool.or_false, if_true, if_false, Bool.false_eq_true, Int.zero_le_ofNat] at h0 h1 h2 h3 h4 h5 h6 h7 h8 h9 h10 h11 h12 h13 h14 h15 h16 h17 h18 h19 h20 h21 h22 h23 h24 h25 h26 h27 h28 h29 h30 h31 h32 h33 h34 h35 h36 h37 h38 h39 h40 h41 h42 h43 h44 h45 h46 h47 h48 h49 h50 h51 h52 h53 c0
    subst h53 h52 h51 h50 h49 h48 h47 h46 h45 h44 h43 h42 h41 h40 h39 h38 h37 h36 h35 h34 h33 h32 h31 h30 h29 h28 h27 h26 h25 h24 h23 h22 h21 h20 h19 h18 h17 h16 h15 h14 h13 h12 h11 h10 h9 h8 h7 h6 h5 h4 h3 h2 h1 h0
    cases g1004_x13_ <;> (simp only [Bool.true_and, Bool.false_and, Bool.and_true, Bool.and_false, Bool.false_eq_true, if_false, if_true, Bool.not_true, Bool.not_false, Bool.not_eq_true', decide_eq_true_eq, decide_eq_false_iff_not, Bool.or_eq_true, Bool.and_eq_true, Bool.false_or, Bool.true_or, Bool.or_false, Bool.or_true, false_or, true_or, or_false, or_true, true_implies, forall_const, false_implies, Int.reduceEq, Int.reduceLE, Int.reduceLT, decide_true, decide_false, Bool.not_eq_false', Bool.true_eq_false, and_true, true_and, false_and, and_false, not_true, not_false_iff, ite_true, ite_false, Bool.if_false_left, imp_self] at * <;> (try omega) <;> (try simp only [Bool.and_eq_false_iff, Bool.or_eq_false_iff, decide_eq_false_iff_not, Bool.not_eq_true', decide_eq_true_eq] at *) <;> (try omega) <;> grind)

set_option maxHeartbeats 4000000 in
theorem tv_1 {f1000_x13_ f1001_x13_ f1002_x13_ f1003_x13_ f1005_x13_ x0 x1 x12 x13 x20 x21 x22 x23 x4 x5 x6 y0 y1 y15 y17 y19 y2 y24 y26 y28 y3 y30 y32 y34 y36 y38 y4 y40 y42 y43 y44 y45 y46 y5 y51 y52 : Int} {g1004_x13_ p20 p21 p22 q10 q11 q12 q13 q14 q16 q18 q20 q21 q22 q23 q25 q27 q29 q31 q33 q35 q37 q39 q41 q47 q48 q49 q50 q53 q6 q7 q8 q9 : Bool}
  (h0 : y0 = ((min (max f1000_x13_ (-900000 : Int)) (900000 : Int)) + (min (max f1001_x13_ ((0 : Int) - x6)) x6)))
  (h1 : y1 = (if (decide ((0 : Int) = x5)) = true then (min (max f1005_x13_ (-1000000 : Int)) (1000000 : Int)) else y0))
  (h2 : y2 = ((min (max f1000_x13_ (-900000 : Int)) (900000 : Int)) + (min (max f1002_x13_ ((0 : Int) - x6)) x6)))
  (h3 : y3 = (if (decide ((1 : Int) = x5)) = true then (min (max f1005_x13_ (-1000000 : Int)) (1000000 : Int)) else y2))
  (h4 : y4 = ((min (max f1000_x13_ (-900000 : Int)) (900000 : Int)) + (min (max f1003_x13_ ((0 : Int) - x6)) x6)))
  (h5 : y5 = (if (decide ((2 : Int) = x5)) = true then (min (max f1005_x13_ (-1000000 : Int)) (1000000 : Int)) else y4))
  (h6 : q6 = ((((!(decide ((0 : Int) = x5))) || g1004_x13_) && (decide ((y1 - (max (min y1 y3) (min (max y1 y3) y5))) ≤ x0))) && (decide (((max (min y1 y3) (min (max y1 y3) y5)) - y1) ≤ x0))))
  (h7 : q7 = ((((!(decide ((1 : Int) = x5))) || g1004_x13_) && (decide ((y3 - (max (min y1 y3) (min (max y1 y3) y5))) ≤ x0))) && (decide (((max (min y1 y3) (min (max y1 y3) y5)) - y3) ≤ x0))))
  (h8 : q8 = ((((!(decide ((2 : Int) = x5))) || g1004_x13_) && (decide ((y5 - (max (min y1 y3) (min (max y1 y3) y5))) ≤ x0))) && (decide (((max (min y1 y3) (min (max y1 y3) y5)) - y5) ≤ x0))))
  (h9 : q9 = ((((!(decide ((0 : Int) = x5))) || g1004_x13_) && (decide ((y1 - ((y1 + y3) / (2 : Int))) ≤ x0))) && (decide ((((y1 + y3) / (2 : Int)) - y1) ≤ x0))))
  (h10 : q10 = ((((!(decide ((1 : Int) = x5))) || g1004_x13_) && (decide ((y3 - ((y1 + y3) / (2 : Int))) ≤ x0))) && (decide ((((y1 + y3) / (2 : Int)) - y3) ≤ x0))))
  (h11 : q11 = ((((!(decide ((2 : Int) = x5))) || g1004_x13_) && (decide ((y5 - ((y1 + y3) / (2 : Int))) ≤ x0))) && (decide ((((y1 + y3) / (2 : Int)) - y5) ≤ x0))))
  (h12 : q12 = ((((!(decide ((0 : Int) = x5))) || g1004_x13_) && (decide ((y1 - ((y1 + y5) / (2 : Int))) ≤ x0))) && (decide ((((y1 + y5) / (2 : Int)) - y1) ≤ x0))))
  (h13 : q13 = ((((!(decide ((1 : Int) = x5))) || g1004_x13_) && (decide ((y3 - ((y1 + y5) / (2 : Int))) ≤ x0))) && (decide ((((y1 + y5) / (2 : Int)) - y3) ≤ x0))))
  (h14 : q14 = ((((!(decide ((2 : Int) = x5))) || g1004_x13_) && (decide ((y5 - ((y1 + y5) / (2 : Int))) ≤ x0))) && (decide ((((y1 + y5) / (2 : Int)) - y5) ≤ x0))))
  (h15 : y15 = (if p20 = true then x20 else (if ((((!(decide ((0 : Int) = x5))) || g1004_x13_) && (decide ((0 : Int) ≤ x0))) && (decide ((0 : Int) ≤ x0))) = true then (0 : Int) else (min (x20 + (1 : Int)) (10 : Int)))))
  (h16 : q16 = (p20 || ((!((((!(decide ((0 : Int) = x5))) || g1004_x13_) && (decide ((0 : Int) ≤ x0))) && (decide ((0 : Int) ≤ x0)))) && (decide (x1 ≤ (min (x20 + (1 : Int)) (10 : Int)))))))
  (h17 : y17 = (if p21 = true then x21 else (if ((((!(decide ((1 : Int) = x5))) || g1004_x13_) && (decide ((y3 - y1) ≤ x0))) && (decide ((y1 - y3) ≤ x0))) = true then (0 : Int) else (min (x21 + (1 : Int)) (10 : Int)))))
  (h18 : q18 = (p21 || ((!((((!(decide ((1 : Int) = x5))) || g1004_x13_) && (decide ((y3 - y1) ≤ x0))) && (decide ((y1 - y3) ≤ x0)))) && (decide (x1 ≤ (min (x21 + (1 : Int)) (10 : Int)))))))
  (h19 : y19 = (if p22 = true then x22 else (if ((((!(decide ((2 : Int) = x5))) || g1004_x13_) && (decide ((y5 - y1) ≤ x0))) && (decide ((y1 - y5) ≤ x0))) = true then (0 : Int) else (min (x22 + (1 : Int)) (10 : Int)))))
  (h20 : q20 = (p22 || ((!((((!(decide ((2 : Int) = x5))) || g1004_x13_) && (decide ((y5 - y1) ≤ x0))) && (decide ((y1 - y5) ≤ x0)))) && (decide (x1 ≤ (min (x22 + (1 : Int)) (10 : Int)))))))
  (h21 : q21 = ((((!(decide ((0 : Int) = x5))) || g1004_x13_) && (decide ((y1 - ((y3 + y5) / (2 : Int))) ≤ x0))) && (decide ((((y3 + y5) / (2 : Int)) - y1) ≤ x0))))
  (h22 : q22 = ((((!(decide ((1 : Int) = x5))) || g1004_x13_) && (decide ((y3 - ((y3 + y5) / (2 : Int))) ≤ x0))) && (decide ((((y3 + y5) / (2 : Int)) - y3) ≤ x0))))
  (h23 : q23 = ((((!(decide ((2 : Int) = x5))) || g1004_x13_) && (decide ((y5 - ((y3 + y5) / (2 : Int))) ≤ x0))) && (decide ((((y3 + y5) / (2 : Int)) - y5) ≤ x0))))
  (h24 : y24 = (if p20 = true then x20 else (if ((((!(decide ((0 : Int) = x5))) || g1004_x13_) && (decide ((y1 - y3) ≤ x0))) && (decide ((y3 - y1) ≤ x0))) = true then (0 : Int) else (min (x20 + (1 : Int)) (10 : Int)))))
  (h25 : q25 = (p20 || ((!((((!(decide ((0 : Int) = x5))) || g1004_x13_) && (decide ((y1 - y3) ≤ x0))) && (decide ((y3 - y1) ≤ x0)))) && (decide (x1 ≤ (min (x20 + (1 : Int)) (10 : Int)))))))
  (h26 : y26 = (if p21 = true then x21 else (if ((((!(decide ((1 : Int) = x5))) || g1004_x13_) && (decide ((0 : Int) ≤ x0))) && (decide ((0 : Int) ≤ x0))) = true then (0 : Int) else (min (x21 + (1 : Int)) (10 : Int)))))
  (h27 : q27 = (p21 || ((!((((!(decide ((1 : Int) = x5))) || g1004_x13_) && (decide ((0 : Int) ≤ x0))) && (decide ((0 : Int) ≤ x0)))) && (decide (x1 ≤ (min (x21 + (1 : Int)) (10 : Int)))))))
  (h28 : y28 = (if p22 = true then x22 else (if ((((!(decide ((2 : Int) = x5))) || g1004_x13_) && (decide ((y5 - y3) ≤ x0))) && (decide ((y3 - y5) ≤ x0))) = true then (0 : Int) else (min (x22 + (1 : Int)) (10 : Int)))))
  (h29 : q29 = (p22 || ((!((((!(decide ((2 : Int) = x5))) || g1004_x13_) && (decide ((y5 - y3) ≤ x0))) && (decide ((y3 - y5) ≤ x0)))) && (decide (x1 ≤ (min (x22 + (1 : Int)) (10 : Int)))))))
  (h30 : y30 = (if p20 = true then x20 else (if ((((!(decide ((0 : Int) = x5))) || g1004_x13_) && (decide ((y1 - y5) ≤ x0))) && (decide ((y5 - y1) ≤ x0))) = true then (0 : Int) else (min (x20 + (1 : Int)) (10 : Int)))))
  (h31 : q31 = (p20 || ((!((((!(decide ((0 : Int) = x5))) || g1004_x13_) && (decide ((y1 - y5) ≤ x0))) && (decide ((y5 - y1) ≤ x0)))) && (decide (x1 ≤ (min (x20 + (1 : Int)) (10 : Int)))))))
  (h32 : y32 = (if p21 = true then x21 else (if ((((!(decide ((1 : Int) = x5))) || g1004_x13_) && (decide ((y3 - y5) ≤ x0))) && (decide ((y5 - y3) ≤ x0))) = true then (0 : Int) else (min (x21 + (1 : Int)) (10 : Int)))))
  (h33 : q33 = (p21 || ((!((((!(decide ((1 : Int) = x5))) || g1004_x13_) && (decide ((y3 - y5) ≤ x0))) && (decide ((y5 - y3) ≤ x0)))) && (decide (x1 ≤ (min (x21 + (1 : Int)) (10 : Int)))))))
  (h34 : y34 = (if p22 = true then x22 else (if ((((!(decide ((2 : Int) = x5))) || g1004_x13_) && (decide ((0 : Int) ≤ x0))) && (decide ((0 : Int) ≤ x0))) = true then (0 : Int) else (min (x22 + (1 : Int)) (10 : Int)))))
  (h35 : q35 = (p22 || ((!((((!(decide ((2 : Int) = x5))) || g1004_x13_) && (decide ((0 : Int) ≤ x0))) && (decide ((0 : Int) ≤ x0)))) && (decide (x1 ≤ (min (x22 + (1 : Int)) (10 : Int)))))))
  (h36 : y36 = (if p20 = true then x20 else (if ((((!(decide ((0 : Int) = x5))) || g1004_x13_) && (decide ((y1 - x23) ≤ x0))) && (decide ((x23 - y1) ≤ x0))) = true then (0 : Int) else (min (x20 + (1 : Int)) (10 : Int)))))
  (h37 : q37 = (p20 || ((!((((!(decide ((0 : Int) = x5))) || g1004_x13_) && (decide ((y1 - x23) ≤ x0))) && (decide ((x23 - y1) ≤ x0)))) && (decide (x1 ≤ (min (x20 + (1 : Int)) (10 : Int)))))))
  (h38 : y38 = (if p21 = true then x21 else (if ((((!(decide ((1 : Int) = x5))) || g1004_x13_) && (decide ((y3 - x23) ≤ x0))) && (decide ((x23 - y3) ≤ x0))) = true then (0 : Int) else (min (x21 + (1 : Int)) (10 : Int)))))
  (h39 : q39 = (p21 || ((!((((!(decide ((1 : Int) = x5))) || g1004_x13_) && (decide ((y3 - x23) ≤ x0))) && (decide ((x23 - y3) ≤ x0)))) && (decide (x1 ≤ (min (x21 + (1 : Int)) (10 : Int)))))))
  (h40 : y40 = (if p22 = true then x22 else (if ((((!(decide ((2 : Int) = x5))) || g1004_x13_) && (decide ((y5 - x23) ≤ x0))) && (decide ((x23 - y5) ≤ x0))) = true then (0 : Int) else (min (x22 + (1 : Int)) (10 : Int)))))
  (h41 : q41 = (p22 || ((!((((!(decide ((2 : Int) = x5))) || g1004_x13_) && (decide ((y5 - x23) ≤ x0))) && (decide ((x23 - y5) ≤ x0)))) && (decide (x1 ≤ (min (x22 + (1 : Int)) (10 : Int)))))))
  (h42 : y42 = (if (((!(decide ((0 : Int) = x5))) || g1004_x13_) && (!p20)) = true then (if (((!(decide ((1 : Int) = x5))) || g1004_x13_) && (!p21)) = true then (if (((!(decide ((2 : Int) = x5))) || g1004_x13_) && (!p22)) = true then (max (min y1 y3) (min (max y1 y3) y5)) else ((y1 + y3) / (2 : Int))) else (if (((!(decide ((2 : Int) = x5))) || g1004_x13_) && (!p22)) = true then ((y1 + y5) / (2 : Int)) else y1)) else (if (((!(decide ((1 : Int) = x5))) || g1004_x13_) && (!p21)) = true then (if (((!(decide ((2 : Int) = x5))) || g1004_x13_) && (!p22)) = true then ((y3 + y5) / (2 : Int)) else y3) else (if (((!(decide ((2 : Int) = x5))) || g1004_x13_) && (!p22)) = true then y5 else x23))))
  (h43 : y43 = (if (((!(decide ((0 : Int) = x5))) || g1004_x13_) && (!p20)) = true then (if (((!(decide ((1 : Int) = x5))) || g1004_x13_) && (!p21)) = true then (if (((!(decide ((2 : Int) = x5))) || g1004_x13_) && (!p22)) = true then (3 : Int) else (2 : Int)) else (if (((!(decide ((2 : Int) = x5))) || g1004_x13_) && (!p22)) = true then (2 : Int) else (1 : Int))) else (if (((!(decide ((1 : Int) = x5))) || g1004_x13_) && (!p21)) = true then (if (((!(decide ((2 : Int) = x5))) || g1004_x13_) && (!p22)) = true then (2 : Int) else (1 : Int)) else (if (((!(decide ((2 : Int) = x5))) || g1004_x13_) && (!p22)) = true then (1 : Int) else (0 : Int)))))
  (h44 : y44 = (if (((!(decide ((0 : Int) = x5))) || g1004_x13_) && (!p20)) = true then (if (((!(decide ((1 : Int) = x5))) || g1004_x13_) && (!p21)) = true then (if (((!(decide ((2 : Int) = x5))) || g1004_x13_) && (!p22)) = true then (if p20 = true then x20 else (if q6 = true then (0 : Int) else (min (x20 + (1 : Int)) (10 : Int)))) else (if p20 = true then x20 else (if q9 = true then (0 : Int) else (min (x20 + (1 : Int)) (10 : Int))))) else (if (((!(decide ((2 : Int) = x5))) || g1004_x13_) && (!p22)) = true then (if p20 = true then x20 else (if q12 = true then (0 : Int) else (min (x20 + (1 : Int)) (10 : Int)))) else y15)) else (if (((!(decide ((1 : Int) = x5))) || g1004_x13_) && (!p21)) = true then (if (((!(decide ((2 : Int) = x5))) || g1004_x13_) && (!p22)) = true then (if p20 = true then x20 else (if q21 = true then (0 : Int) else (min (x20 + (1 : Int)) (10 : Int)))) else y24) else (if (((!(decide ((2 : Int) = x5))) || g1004_x13_) && (!p22)) = true then y30 else y36))))
  (h45 : y45 = (if (((!(decide ((0 : Int) = x5))) || g1004_x13_) && (!p20)) = true then (if (((!(decide ((1 : Int) = x5))) || g1004_x13_) && (!p21)) = true then (if (((!(decide ((2 : Int) = x5))) || g1004_x13_) && (!p22)) = true then (if p21 = true then x21 else (if q7 = true then (0 : Int) else (min (x21 + (1 : Int)) (10 : Int)))) else (if p21 = true then x21 else (if q10 = true then (0 : Int) else (min (x21 + (1 : Int)) (10 : Int))))) else (if (((!(decide ((2 : Int) = x5))) || g1004_x13_) && (!p22)) = true then (if p21 = true then x21 else (if q13 = true then (0 : Int) else (min (x21 + (1 : Int)) (10 : Int)))) else y17)) else (if (((!(decide ((1 : Int) = x5))) || g1004_x13_) && (!p21)) = true then (if (((!(decide ((2 : Int) = x5))) || g1004_x13_) && (!p22)) = true then (if p21 = true then x21 else (if q22 = true then (0 : Int) else (min (x21 + (1 : Int)) (10 : Int)))) else y26) else (if (((!(decide ((2 : Int) = x5))) || g1004_x13_) && (!p22)) = true then y32 else y38))))
  (h46 : y46 = (if (((!(decide ((0 : Int) = x5))) || g1004_x13_) && (!p20)) = true then (if (((!(decide ((1 : Int) = x5))) || g1004_x13_) && (!p21)) = true then (if (((!(decide ((2 : Int) = x5))) || g1004_x13_) && (!p22)) = true then (if p22 = true then x22 else (if q8 = true then (0 : Int) else (min (x22 + (1 : Int)) (10 : Int)))) else (if p22 = true then x22 else (if q11 = true then (0 : Int) else (min (x22 + (1 : Int)) (10 : Int))))) else (if (((!(decide ((2 : Int) = x5))) || g1004_x13_) && (!p22)) = true then (if p22 = true then x22 else (if q14 = true then (0 : Int) else (min (x22 + (1 : Int)) (10 : Int)))) else y19)) else (if (((!(decide ((1 : Int) = x5))) || g1004_x13_) && (!p21)) = true then (if (((!(decide ((2 : Int) = x5))) || g1004_x13_) && (!p22)) = true then (if p22 = true then x22 else (if q23 = true then (0 : Int) else (min (x22 + (1 : Int)) (10 : Int)))) else y28) else (if (((!(decide ((2 : Int) = x5))) || g1004_x13_) && (!p22)) = true then y34 else y40))))
  (h47 : q47 = (if (((!(decide ((0 : Int) = x5))) || g1004_x13_) && (!p20)) = true then (if (((!(decide ((1 : Int) = x5))) || g1004_x13_) && (!p21)) = true then (if (((!(decide ((2 : Int) = x5))) || g1004_x13_) && (!p22)) = true then (p20 || ((!q6) && (decide (x1 ≤ (min (x20 + (1 : Int)) (10 : Int)))))) else (p20 || ((!q9) && (decide (x1 ≤ (min (x20 + (1 : Int)) (10 : Int))))))) else (if (((!(decide ((2 : Int) = x5))) || g1004_x13_) && (!p22)) = true then (p20 || ((!q12) && (decide (x1 ≤ (min (x20 + (1 : Int)) (10 : Int)))))) else q16)) else (if (((!(decide ((1 : Int) = x5))) || g1004_x13_) && (!p21)) = true then (if (((!(decide ((2 : Int) = x5))) || g1004_x13_) && (!p22)) = true then (p20 || ((!q21) && (decide (x1 ≤ (min (x20 + (1 : Int)) (10 : Int)))))) else q25) else (if (((!(decide ((2 : Int) = x5))) || g1004_x13_) && (!p22)) = true then q31 else q37))))
  (h48 : q48 = (if (((!(decide ((0 : Int) = x5))) || g1004_x13_) && (!p20)) = true then (if (((!(decide ((1 : Int) = x5))) || g1004_x13_) && (!p21)) = true then (if (((!(decide ((2 : Int) = x5))) || g1004_x13_) && (!p22)) = true then (p21 || ((!q7) && (decide (x1 ≤ (min (x21 + (1 : Int)) (10 : Int)))))) else (p21 || ((!q10) && (decide (x1 ≤ (min (x21 + (1 : Int)) (10 : Int))))))) else (if (((!(decide ((2 : Int) = x5))) || g1004_x13_) && (!p22)) = true then (p21 || ((!q13) && (decide (x1 ≤ (min (x21 + (1 : Int)) (10 : Int)))))) else q18)) else (if (((!(decide ((1 : Int) = x5))) || g1004_x13_) && (!p21)) = true then (if (((!(decide ((2 : Int) = x5))) || g1004_x13_) && (!p22)) = true then (p21 || ((!q22) && (decide (x1 ≤ (min (x21 + (1 : Int)) (10 : Int)))))) else q27) else (if (((!(decide ((2 : Int) = x5))) || g1004_x13_) && (!p22)) = true then q33 else q39))))
  (h49 : q49 = (if (((!(decide ((0 : Int) = x5))) || g1004_x13_) && (!p20)) = true then (if (((!(decide ((1 : Int) = x5))) || g1004_x13_) && (!p21)) = true then (if (((!(decide ((2 : Int) = x5))) || g1004_x13_) && (!p22)) = true then (p22 || ((!q8) && (decide (x1 ≤ (min (x22 + (1 : Int)) (10 : Int)))))) else (p22 || ((!q11) && (decide (x1 ≤ (min (x22 + (1 : Int)) (10 : Int))))))) else (if (((!(decide ((2 : Int) = x5))) || g1004_x13_) && (!p22)) = true then (p22 || ((!q14) && (decide (x1 ≤ (min (x22 + (1 : Int)) (10 : Int)))))) else q20)) else (if (((!(decide ((1 : Int) = x5))) || g1004_x13_) && (!p21)) = true then (if (((!(decide ((2 : Int) = x5))) || g1004_x13_) && (!p22)) = true then (p22 || ((!q23) && (decide (x1 ≤ (min (x22 + (1 : Int)) (10 : Int)))))) else q29) else (if (((!(decide ((2 : Int) = x5))) || g1004_x13_) && (!p22)) = true then q35 else q41))))
  (h50 : q50 = ((decide (((min (max f1000_x13_ (-900000 : Int)) (900000 : Int)) - x6) ≤ y42)) && (decide (y42 ≤ ((min (max f1000_x13_ (-900000 : Int)) (900000 : Int)) + x6)))))
  (h51 : y51 = (((min (max f1000_x13_ (-900000 : Int)) (900000 : Int)) - x0) - x6))
  (h52 : y52 = (((min (max f1000_x13_ (-900000 : Int)) (900000 : Int)) + x0) + x6))
  (h53 : q53 = (g1004_x13_ && ((decide (y51 ≤ (min (max f1005_x13_ (-1000000 : Int)) (1000000 : Int)))) && (decide ((min (max f1005_x13_ (-1000000 : Int)) (1000000 : Int)) ≤ y52)))))
  (c0 : (((!(decide ((0 : Int) = x5))) && q47) || (((decide ((0 : Int) = x5)) && (decide (x1 ≤ (if q53 = true then (0 : Int) else (x12 + (1 : Int)))))) && (!q47))) = true)
  (c1 : q50 = true)
  (c2 : (decide (x13 < x4)) = true)
  (i0 : 0 ≤ x0 ∧ x0 ≤ 1000000)
  (i1 : 1 ≤ x1 ∧ x1 ≤ 10)
  (i2 : 0 ≤ x4 ∧ x4 ≤ 100)
  (i3 : 0 ≤ x5 ∧ x5 ≤ 3)
  (i4 : 0 ≤ x6 ∧ x6 ≤ 1000)
  (i5 : 2 * x6 ≤ x0)
  (i6 : 0 ≤ x12 ∧ x12 ≤ x13)
  (i7 : 0 ≤ x13 ∧ x13 ≤ 100)
  (i8 : 0 ≤ x20 ∧ x20 ≤ 10)
  (i9 : 0 ≤ x21 ∧ x21 ≤ 10)
  (i10 : 0 ≤ x22 ∧ x22 ≤ 10)
  (i11 : -1000000 ≤ x23 ∧ x23 ≤ 1000000)
  (i12 : p20 = true → x5 = 0)
  (i13 : p21 = true → x5 = 1)
  (i14 : p22 = true → x5 = 2)
  (i15 : x5 = 0 → p20 = false → x12 ≤ x20 ∧ x20 < x1)
  (i16 : x5 = 1 → p21 = false → x12 ≤ x21 ∧ x21 < x1)
  (i17 : x5 = 2 → p22 = false → x12 ≤ x22 ∧ x22 < x1)
  : False := by
  have k5 : x5 = 0 ∨ x5 = 1 ∨ x5 = 2 ∨ x5 = 3 := by omega
  obtain ⟨a0, a1⟩ := i0; obtain ⟨a2, a3⟩ := i1; obtain ⟨a4, a5⟩ := i4; obtain ⟨a6, a7⟩ := i6; obtain ⟨a8, a9⟩ := i7; obtain ⟨b0, b1⟩ := i8; obtain ⟨b2, b3⟩ := i9; obtain ⟨b4, b5⟩ := i10; obtain ⟨b6, b7⟩ := i11
  generalize ht : min (max f1000_x13_ (-900000)) 900000 = t at *
  have t1 : -900000 ≤ t := by omega
  have t2 : t ≤ 900000 := by omega
  clear ht
  generalize hl : min (max f1005_x13_ (-1000000)) 1000000 = l at *
  have l1 : -1000000 ≤ l := by omega
  have l2 : l ≤ 1000000 := by omega
  clear hl
  generalize hy0 : min (max f1001_x13_ (0 - x6)) x6 = d0 at *
  have d01 : -x6 ≤ d0 := by omega
  have d02 : d0 ≤ x6 := by omega
  clear hy0
  generalize hy1 : min (max f1002_x13_ (0 - x6)) x6 = d1 at *
  have d11 : -x6 ≤ d1 := by omega
  have d12 : d1 ≤ x6 := by omega
  clear hy1
  generalize hy2 : min (max f1003_x13_ (0 - x6)) x6 = d2 at *
  have d21 : -x6 ≤ d2 := by omega
  have d22 : d2 ≤ x6 := by omega
  clear hy2
  rcases k5 with k5 | k5 | k5 | k5 <;> subst k5
  · have z1 : p21 = false := by cases p21 with | false => rfl | true => exact absurd (i13 rfl) (by omega)
    have z2 : p22 = false := by cases p22 with | false => rfl | true => exact absurd (i14 rfl) (by omega)
    have ii := i15 rfl
    clear i12 i13 i14 i15 i16 i17
    subst z1; subst z2
    simp only [Int.reduceEq, decide_true, decide_false, Bool.not_true, Bool.not_false, Bool.true_or, Bool.false_or, Bool.true_and, Bool.false_and, Bool.and_true, Bool.and_false, Bool.or_false, if_true, if_false, Bool.false_eq_true, Int.zero_le_ofNat] at h0 h1 h2 h3 h4 h5 h6 h7 h8 h9 h10 h11 h12 h13 h14 h15 h16 h17 h18 h19 h20 h21 h22 h23 h24 h25 h26 h27 h28 h29 h30 h31 h32 h33 h34 h35 h36 h37 h38 h39 h40 h41 h42 h43 h44 h45 h46 h47 h48 h49 h50 h51 h52 h53 c0
    subst h53 h52 h51 h50 h49 h48 h47 h46 h45 h44 h43 h42 h41 h40 h39 h38 h37 h36 h35 h34 h33 h32 h31 h30 h29 h28 h27 h26 h25 h24 h23 h22 h21 h20 h19 h18 h17 h16 h15 h14 h13 h12 h11 h10 h9 h8 h7 h6 h5 h4 h3 h2 h1 h0
    cases p20 <;> cases g1004_x13_ <;> (simp only [Bool.true_and, Bool.false_and, Bool.and_true, Bool.and_false, Bool.false_eq_true, if_false, if_true, Bool.not_true, Bool.not_false, Bool.not_eq_true', decide_eq_true_eq, decide_eq_false_iff_not, Bool.or_eq_true, Bool.and_eq_true, Bool.false_or, Bool.true_or, Bool.or_false, Bool.or_true, false_or, true_or, or_false, or_true, true_implies, forall_const, false_implies, Int.reduceEq, Int.reduceLE, Int.reduceLT, decide_true, decide_false, Bool.not_eq_false', Bool.true_eq_false, and_true, true_and, false_and, and_false, not_true, not_false_iff, ite_true, ite_false, Bool.if_false_left, imp_self] at * <;> (try omega) <;> (try simp only [Bool.and_eq_false_iff, Bool.or_eq_false_iff, decide_eq_false_iff_not, Bool.not_eq_true', decide_eq_true_eq] at *) <;> (try omega) <;> grind)
  · have z0 : p20 = false := by cases p20 with | false => rfl | true => exact absurd (i12 rfl) (by omega)
    have z2 : p22 = false := by cases p22 with | false => rfl | true => exact absurd (i14 rfl) (by omega)
    have ii := i16 rfl
    clear i12 i13 i14 i15 i16 i17
    subst z0; subst z2
    simp only [Int.reduceEq, decide_true, decide_false, Bool.not_true, Bool.not_false, Bool.true_or, Bool.false_or, Bool.true_and, Bool.false_and, Bool.and_true, Bool.and_false, Bool.or_false, if_true, if_false, Bool.false_eq_true, Int.zero_le_ofNat] at h0 h1 h2 h3 h4 h5 h6 h7 h8 h9 h10 h11 h12 h13 h14 h15 h16 h17 h18 h19 h20 h21 h22 h23 h24 h25 h26 h27 h28 h29 h30 h31 h32 h33 h34 h35 h36 h37 h38 h39 h40 h41 h42 h43 h44 h45 h46 h47 h48 h49 h50 h51 h52 h53 c0
    subst h53 h52 h51 h50 h49 h48 h47 h46 h45 h44 h43 h42 h41 h40 h39 h38 h37 h36 h35 h34 h33 h32 h31 h30 h29 h28 h27 h26 h25 h24 h23 h22 h21 h20 h19 h18 h17 h16 h15 h14 h13 h12 h11 h10 h9 h8 h7 h6 h5 h4 h3 h2 h1 h0
    cases p21 <;> cases g1004_x13_ <;> (simp only [Bool.true_and, Bool.false_and, Bool.and_true, Bool.and_false, Bool.false_eq_true, if_false, if_true, Bool.not_true, Bool.not_false, Bool.not_eq_true', decide_eq_true_eq, decide_eq_false_iff_not, Bool.or_eq_true, Bool.and_eq_true, Bool.false_or, Bool.true_or, Bool.or_false, Bool.or_true, false_or, true_or, or_false, or_true, true_implies, forall_const, false_implies, Int.reduceEq, Int.reduceLE, Int.reduceLT, decide_true, decide_false, Bool.not_eq_false', Bool.true_eq_false, and_true, true_and, false_and, and_false, not_true, not_false_iff, ite_true, ite_false, Bool.if_false_left, imp_self] at * <;> (try omega) <;> (try simp only [Bool.and_eq_false_iff, Bool.or_eq_false_iff, decide_eq_false_iff_not, Bool.not_eq_true', decide_eq_true_eq] at *) <;> (try omega) <;> grind)
  · have z0 : p20 = false := by cases p20 with | false => rfl | true => exact absurd (i12 rfl) (by omega)
    have z1 : p21 = false := by cases p21 with | false => rfl | true => exact absurd (i13 rfl) (by omega)
    have ii := i17 rfl
    clear i12 i13 i14 i15 i16 i17
    subst z0; subst z1
    simp only [Int.reduceEq, decide_true, decide_false, Bool.not_true, Bool.not_false, Bool.true_or, Bool.false_or, Bool.true_and, Bool.false_and, Bool.and_true, Bool.and_false, Bool.or_false, if_true, if_false, Bool.false_eq_true, Int.zero_le_ofNat] at h0 h1 h2 h3 h4 h5 h6 h7 h8 h9 h10 h11 h12 h13 h14 h15 h16 h17 h18 h19 h20 h21 h22 h23 h24 h25 h26 h27 h28 h29 h30 h31 h32 h33 h34 h35 h36 h37 h38 h39 h40 h41 h42 h43 h44 h45 h46 h47 h48 h49 h50 h51 h52 h53 c0
    subst h53 h52 h51 h50 h49 h48 h47 h46 h45 h44 h43 h42 h41 h40 h39 h38 h37 h36 h35 h34 h33 h32 h31 h30 h29 h28 h27 h26 h25 h24 h23 h22 h21 h20 h19 h18 h17 h16 h15 h14 h13 h12 h11 h10 h9 h8 h7 h6 h5 h4 h3 h2 h1 h0
    cases p22 <;> cases g1004_x13_ <;> (simp only [Bool.true_and, Bool.false_and, Bool.and_true, Bool.and_false, Bool.false_eq_true, if_false, if_true, Bool.not_true, Bool.not_false, Bool.not_eq_true', decide_eq_true_eq, decide_eq_false_iff_not, Bool.or_eq_true, Bool.and_eq_true, Bool.false_or, Bool.true_or, Bool.or_false, Bool.or_true, false_or, true_or, or_false, or_true, true_implies, forall_const, false_implies, Int.reduceEq, Int.reduceLE, Int.reduceLT, decide_true, decide_false, Bool.not_eq_false', Bool.true_eq_false, and_true, true_and, false_and, and_false, not_true, not_false_iff, ite_true, ite_false, Bool.if_false_left, imp_self] at * <;> (try omega) <;> (try simp only [Bool.and_eq_false_iff, Bool.or_eq_false_iff, decide_eq_false_iff_not, Bool.not_eq_true', decide_eq_true_eq] at *) <;> (try omega) <;> grind)
  · have z0 : p20 = false := by cases p20 with | false => rfl | true => exact absurd (i12 rfl) (by omega)
    have z1 : p21 = false := by cases p21 with | false => rfl | true => exact absurd (i13 rfl) (by omega)
    have z2 : p22 = false := by cases p22 with | false => rfl | true => exact absurd (i14 rfl) (by omega)
    clear i12 i13 i14 i15 i16 i17
    subst z0; subst z1; subst z2
    simp only [Int.reduceEq, decide_true, decide_false, Bool.not_true, Bool.not_false, Bool.true_or, Bool.false_or, Bool.true_and, Bool.false_and, Bool.and_true, Bool.and_false, Bool.or_false, if_true, if_false, Bool.false_eq_true, Int.zero_le_ofNat] at h0 h1 h2 h3 h4 h5 h6 h7 h8 h9 h10 h11 h12 h13 h14 h15 h16 h17 h18 h19 h20 h21 h22 h23 h24 h25 h26 h27 h28 h29 h30 h31 h32 h33 h34 h35 h36 h37 h38 h39 h40 h41 h42 h43 h44 h45 h46 h47 h48 h49 h50 h51 h52 h53 c0
    subst h53 h52 h51 h50 h49 h48 h47 h46 h45 h44 h43 h42 h41 h40 h39 h38 h37 h36 h35 h34 h33 h32 h31 h30 h29 h28 h27 h26 h25 h24 h23 h22 h21 h20 h19 h18 h17 h16 h15 h14 h13 h12 h11 h10 h9 h8 h7 h6 h5 h4 h3 h2 h1 h0
    cases g1004_x13_ <;> (simp only [Bool.true_and, Bool.false_and, Bool.and_true, Bool.and_false, Bool.false_eq_true, if_false, if_true, Bool.not_true, Bool.not_false, Bool.not_eq_true', decide_eq_true_eq, decide_eq_false_iff_not, Bool.or_eq_true, Bool.and_eq_true, Bool.false_or, Bool.true_or, Bool.or_false, Bool.or_true, false_or, true_or, or_false, or_true, true_implies, forall_const, false_implies, Int.reduceEq, Int.reduceLE, Int.reduceLT, decide_true, decide_false, Bool.not_eq_false', Bool.true_eq_false, and_true, true_and, false_and, and_false, not_true, not_false_iff, ite_true, ite_false, Bool.if_false_left, imp_self] at * <;> (try omega) <;> (try simp only [Bool.and_eq_false_iff, Bool.or_eq_false_iff, decide_eq_false_iff_not, Bool.not_eq_true', decide_eq_true_eq] at *) <;> (try omega) <;> grind)

set_option maxHeartbeats 4000000 in
theorem tv_2 {f1000_x13_ f1001_x13_ f1002_x13_ f1003_x13_ f1005_x13_ x0 x1 x12 x13 x20 x21 x22 x23 x4 x5 x6 y0 y1 y15 y17 y19 y2 y24 y26 y28 y3 y30 y32 y34 y36 y38 y4 y40 y42 y43 y44 y45 y46 y5 y51 y52 : Int} {g1004_x13_ p20 p21 p22 q10 q11 q12 q13 q14 q16 q18 q20 q21 q22 q23 q25 q27 q29 q31 q33 q35 q37 q39 q41 q47 q48 q49 q50 q53 q6 q7 q8 q9 : Bool}
  (h0 : y0 = ((min (max f1000_x13_ (-900000 : Int)) (900000 : Int)) + (min (max f1001_x13_ ((0 : Int) - x6)) x6)))
  (h1 : y1 = (if (decide ((0 : Int) = x5)) = true then (min (max f1005_x13_ (-1000000 : Int)) (1000000 : Int)) else y0))
  (h2 : y2 = ((min (max f1000_x13_ (-900000 : Int)) (900000 : Int)) + (min (max f1002_x13_ ((0 : Int) - x6)) x6)))
  (h3 : y3 = (if (decide ((1 : Int) = x5)) = true then (min (max f1005_x13_ (-1000000 : Int)) (1000000 : Int)) else y2))
  (h4 : y4 = ((min (max f1000_x13_ (-900000 : Int)) (900000 : Int)) + (min (max f1003_x13_ ((0 : Int) - x6)) x6)))
  (h5 : y5 = (if (decide ((2 : Int) = x5)) = true then (min (max f1005_x13_ (-1000000 : Int)) (1000000 : Int)) else y4))
  (h6 : q6 = ((((!(decide ((0 : Int) = x5))) || g1004_x13_) && (decide ((y1 - (max (min y1 y3) (min (max y1 y3) y5))) ≤ x0))) && (decide (((max (min y1 y3) (min (max y1 y3) y5)) - y1) ≤ x0))))
  (h7 : q7 = ((((!(decide ((1 : Int) = x5))) || g1004_x13_) && (decide ((y3 - (max (min y1 y3) (min (max y1 y3) y5))) ≤ x0))) && (decide (((max (min y1 y3) (min (max y1 y3) y5)) - y3) ≤ x0))))
  (h8 : q8 = ((((!(decide ((2 : Int) = x5))) || g1004_x13_) && (decide ((y5 - (max (min y1 y3) (min (max y1 y3) y5))) ≤ x0))) && (decide (((max (min y1 y3) (min (max y1 y3) y5)) - y5) ≤ x0))))
  (h9 : q9 = ((((!(decide ((0 : Int) = x5))) || g1004_x13_) && (decide ((y1 - ((y1 + y3) / (2 : Int))) ≤ x0))) && (decide ((((y1 + y3) / (2 : Int)) - y1) ≤ x0))))
  (h10 : q10 = ((((!(decide ((1 : Int) = x5))) || g1004_x13_) && (decide ((y3 - ((y1 + y3) / (2 : Int))) ≤ x0))) && (decide ((((y1 + y3) / (2 : Int)) - y3) ≤ x0))))
  (h11 : q11 = ((((!(decide ((2 : Int) = x5))) || g1004_x13_) && (decide ((y5 - ((y1 + y3) / (2 : Int))) ≤ x0))) && (decide ((((y1 + y3) / (2 : Int)) - y5) ≤ x0))))
  (h12 : q12 = ((((!(decide ((0 : Int) = x5))) || g1004_x13_) && (decide ((y1 - ((y1 + y5) / (2 : Int))) ≤ x0))) && (decide ((((y1 + y5) / (2 : Int)) - y1) ≤ x0))))
  (h13 : q13 = ((((!(decide ((1 : Int) = x5))) || g1004_x13_) && (decide ((y3 - ((y1 + y5) / (2 : Int))) ≤ x0))) && (decide ((((y1 + y5) / (2 : Int)) - y3) ≤ x0))))
  (h14 : q14 = ((((!(decide ((2 : Int) = x5))) || g1004_x13_) && (decide ((y5 - ((y1 + y5) / (2 : Int))) ≤ x0))) && (decide ((((y1 + y5) / (2 : Int)) - y5) ≤ x0))))
  (h15 : y15 = (if p20 = true then x20 else (if ((((!(decide ((0 : Int) = x5))) || g1004_x13_) && (decide ((0 : Int) ≤ x0))) && (decide ((0 : Int) ≤ x0))) = true then (0 : Int) else (min (x20 + (1 : Int)) (10 : Int)))))
  (h16 : q16 = (p20 || ((!((((!(decide ((0 : Int) = x5))) || g1004_x13_) && (decide ((0 : Int) ≤ x0))) && (decide ((0 : Int) ≤ x0)))) && (decide (x1 ≤ (min (x20 + (1 : Int)) (10 : Int)))))))
  (h17 : y17 = (if p21 = true then x21 else (if ((((!(decide ((1 : Int) = x5))) || g1004_x13_) && (decide ((y3 - y1) ≤ x0))) && (decide ((y1 - y3) ≤ x0))) = true then (0 : Int) else (min (x21 + (1 : Int)) (10 : Int)))))
  (h18 : q18 = (p21 || ((!((((!(decide ((1 : Int) = x5))) || g1004_x13_) && (decide ((y3 - y1) ≤ x0))) && (decide ((y1 - y3) ≤ x0)))) && (decide (x1 ≤ (min (x21 + (1 : Int)) (10 : Int)))))))
  (h19 : y19 = (if p22 = true then x22 else (if ((((!(decide ((2 : Int) = x5))) || g1004_x13_) && (decide ((y5 - y1) ≤ x0))) && (decide ((y1 - y5) ≤ x0))) = true then (0 : Int) else (min (x22 + (1 : Int)) (10 : Int)))))
  (h20 : q20 = (p22 || ((!((((!(decide ((2 : Int) = x5))) || g1004_x13_) && (decide ((y5 - y1) ≤ x0))) && (decide ((y1 - y5) ≤ x0)))) && (decide (x1 ≤ (min (x22 + (1 : Int)) (10 : Int)))))))
  (h21 : q21 = ((((!(decide ((0 : Int) = x5))) || g1004_x13_) && (decide ((y1 - ((y3 + y5) / (2 : Int))) ≤ x0))) && (decide ((((y3 + y5) / (2 : Int)) - y1) ≤ x0))))
  (h22 : q22 = ((((!(decide ((1 : Int) = x5))) || g1004_x13_) && (decide ((y3 - ((y3 + y5) / (2 : Int))) ≤ x0))) && (decide ((((y3 + y5) / (2 : Int)) - y3) ≤ x0))))
  (h23 : q23 = ((((!(decide ((2 : Int) = x5))) || g1004_x13_) && (decide ((y5 - ((y3 + y5) / (2 : Int))) ≤ x0))) && (decide ((((y3 + y5) / (2 : Int)) - y5) ≤ x0))))
  (h24 : y24 = (if p20 = true then x20 else (if ((((!(decide ((0 : Int) = x5))) || g1004_x13_) && (decide ((y1 - y3) ≤ x0))) && (decide ((y3 - y1) ≤ x0))) = true then (0 : Int) else (min (x20 + (1 : Int)) (10 : Int)))))
  (h25 : q25 = (p20 || ((!((((!(decide ((0 : Int) = x5))) || g1004_x13_) && (decide ((y1 - y3) ≤ x0))) && (decide ((y3 - y1) ≤ x0)))) && (decide (x1 ≤ (min (x20 + (1 : Int)) (10 : Int)))))))
  (h26 : y26 = (if p21 = true then x21 else (if ((((!(decide ((1 : Int) = x5))) || g1004_x13_) && (decide ((0 : Int) ≤ x0))) && (decide ((0 : Int) ≤ x0))) = true then (0 : Int) else (min (x21 + (1 : Int)) (10 : Int)))))
  (h27 : q27 = (p21 || ((!((((!(decide ((1 : Int) = x5))) || g1004_x13_) && (decide ((0 : Int) ≤ x0))) && (decide ((0 : Int) ≤ x0)))) && (decide (x1 ≤ (min (x21 + (1 : Int)) (10 : Int)))))))
  (h28 : y28 = (if p22 = true then x22 else (if ((((!(decide ((2 : Int) = x5))) || g1004_x13_) && (decide ((y5 - y3) ≤ x0))) && (decide ((y3 - y5) ≤ x0))) = true then (0 : Int) else (min (x22 + (1 : Int)) (10 : Int)))))
  (h29 : q29 = (p22 || ((!((((!(decide ((2 : Int) = x5))) || g1004_x13_) && (decide ((y5 - y3) ≤ x0))) && (decide ((y3 - y5) ≤ x0)))) && (decide (x1 ≤ (min (x22 + (1 : Int)) (10 : Int)))))))
  (h30 : y30 = (if p20 = true then x20 else (if ((((!(decide ((0 : Int) = x5))) || g1004_x13_) && (decide ((y1 - y5) ≤ x0))) && (decide ((y5 - y1) ≤ x0))) = true then (0 : Int) else (min (x20 + (1 : Int)) (10 : Int)))))
  (h31 : q31 = (p20 || ((!((((!(decide ((0 : Int) = x5))) || g1004_x13_) && (decide ((y1 - y5) ≤ x0))) && (decide ((y5 - y1) ≤ x0)))) && (decide (x1 ≤ (min (x20 + (1 : Int)) (10 : Int)))))))
  (h32 : y32 = (if p21 = true then x21 else (if ((((!(decide ((1 : Int) = x5))) || g1004_x13_) && (decide ((y3 - y5) ≤ x0))) && (decide ((y5 - y3) ≤ x0))) = true then (0 : Int) else (min (x21 + (1 : Int)) (10 : Int)))))
  (h33 : q33 = (p21 || ((!((((!(decide ((1 : Int) = x5))) || g1004_x13_) && (decide ((y3 - y5) ≤ x0))) && (decide ((y5 - y3) ≤ x0)))) && (decide (x1 ≤ (min (x21 + (1 : Int)) (10 : Int)))))))
  (h34 : y34 = (if p22 = true then x22 else (if ((((!(decide ((2 : Int) = x5))) || g1004_x13_) && (decide ((0 : Int) ≤ x0))) && (decide ((0 : Int) ≤ x0))) = true then (0 : Int) else (min (x22 + (1 : Int)) (10 : Int)))))
  (h35 : q35 = (p22 || ((!((((!(decide ((2 : Int) = x5))) || g1004_x13_) && (decide ((0 : Int) ≤ x0))) && (decide ((0 : Int) ≤ x0)))) && (decide (x1 ≤ (min (x22 + (1 : Int)) (10 : Int)))))))
  (h36 : y36 = (if p20 = true then x20 else (if ((((!(decide ((0 : Int) = x5))) || g1004_x13_) && (decide ((y1 - x23) ≤ x0))) && (decide ((x23 - y1) ≤ x0))) = true then (0 : Int) else (min (x20 + (1 : Int)) (10 : Int)))))
  (h37 : q37 = (p20 || ((!((((!(decide ((0 : Int) = x5))) || g1004_x13_) && (decide ((y1 - x23) ≤ x0))) && (decide ((x23 - y1) ≤ x0)))) && (decide (x1 ≤ (min (x20 + (1 : Int)) (10 : Int)))))))
  (h38 : y38 = (if p21 = true then x21 else (if ((((!(decide ((1 : Int) = x5))) || g1004_x13_) && (decide ((y3 - x23) ≤ x0))) && (decide ((x23 - y3) ≤ x0))) = true then (0 : Int) else (min (x21 + (1 : Int)) (10 : Int)))))
  (h39 : q39 = (p21 || ((!((((!(decide ((1 : Int) = x5))) || g1004_x13_) && (decide ((y3 - x23) ≤ x0))) && (decide ((x23 - y3) ≤ x0)))) && (decide (x1 ≤ (min (x21 + (1 : Int)) (10 : Int)))))))
  (h40 : y40 = (if p22 = true then x22 else (if ((((!(decide ((2 : Int) = x5))) || g1004_x13_) && (decide ((y5 - x23) ≤ x0))) && (decide ((x23 - y5) ≤ x0))) = true then (0 : Int) else (min (x22 + (1 : Int)) (10 : Int)))))
  (h41 : q41 = (p22 || ((!((((!(decide ((2 : Int) = x5))) || g1004_x13_) && (decide ((y5 - x23) ≤ x0))) && (decide ((x23 - y5) ≤ x0)))) && (decide (x1 ≤ (min (x22 + (1 : Int)) (10 : Int)))))))
  (h42 : y42 = (if (((!(decide ((0 : Int) = x5))) || g1004_x13_) && (!p20)) = true then (if (((!(decide ((1 : Int) = x5))) || g1004_x13_) && (!p21)) = true then (if (((!(decide ((2 : Int) = x5))) || g1004_x13_) && (!p22)) = true then (max (min y1 y3) (min (max y1 y3) y5)) else ((y1 + y3) / (2 : Int))) else (if (((!(decide ((2 : Int) = x5))) || g1004_x13_) && (!p22)) = true then ((y1 + y5) / (2 : Int)) else y1)) else (if (((!(decide ((1 : Int) = x5))) || g1004_x13_) && (!p21)) = true then (if (((!(decide ((2 : Int) = x5))) || g1004_x13_) && (!p22)) = true then ((y3 + y5) / (2 : Int)) else y3) else (if (((!(decide ((2 : Int) = x5))) || g1004_x13_) && (!p22)) = true then y5 else x23))))
  (h43 : y43 = (if (((!(decide ((0 : Int) = x5))) || g1004_x13_) && (!p20)) = true then (if (((!(decide ((1 : Int) = x5))) || g1004_x13_) && (!p21)) = true then (if (((!(decide ((2 : Int) = x5))) || g1004_x13_) && (!p22)) = true then (3 : Int) else (2 : Int)) else (if (((!(decide ((2 : Int) = x5))) || g1004_x13_) && (!p22)) = true then (2 : Int) else (1 : Int))) else (if (((!(decide ((1 : Int) = x5))) || g1004_x13_) && (!p21)) = true then (if (((!(decide ((2 : Int) = x5))) || g1004_x13_) && (!p22)) = true then (2 : Int) else (1 : Int)) else (if (((!(decide ((2 : Int) = x5))) || g1004_x13_) && (!p22)) = true then (1 : Int) else (0 : Int)))))
  (h44 : y44 = (if (((!(decide ((0 : Int) = x5))) || g1004_x13_) && (!p20)) = true then (if (((!(decide ((1 : Int) = x5))) || g1004_x13_) && (!p21)) = true then (if (((!(decide ((2 : Int) = x5))) || g1004_x13_) && (!p22)) = true then (if p20 = true then x20 else (if q6 = true then (0 : Int) else (min (x20 + (1 : Int)) (10 : Int)))) else (if p20 = true then x20 else (if q9 = true then (0 : Int) else (min (x20 + (1 : Int)) (10 : Int))))) else (if (((!(decide ((2 : Int) = x5))) || g1004_x13_) && (!p22)) = true then (if p20 = true then x20 else (if q12 = true then (0 : Int) else (min (x20 + (1 : Int)) (10 : Int)))) else y15)) else (if (((!(decide ((1 : Int) = x5))) || g1004_x13_) && (!p21)) = true then (if (((!(decide ((2 : Int) = x5))) || g1004_x13_) && (!p22)) = true then (if p20 = true then x20 else (if q21 = true then (0 : Int) else (min (x20 + (1 : Int)) (10 : Int)))) else y24) else (if (((!(decide ((2 : Int) = x5))) || g1004_x13_) && (!p22)) = true then y30 else y36))))
  (h45 : y45 = (if (((!(decide ((0 : Int) = x5))) || g1004_x13_) && (!p20)) = true then (if (((!(decide ((1 : Int) = x5))) || g1004_x13_) && (!p21)) = true then (if (((!(decide ((2 : Int) = x5))) || g1004_x13_) && (!p22)) = true then (if p21 = true then x21 else (if q7 = true then (0 : Int) else (min (x21 + (1 : Int)) (10 : Int)))) else (if p21 = true then x21 else (if q10 = true then (0 : Int) else (min (x21 + (1 : Int)) (10 : Int))))) else (if (((!(decide ((2 : Int) = x5))) || g1004_x13_) && (!p22)) = true then (if p21 = true then x21 else (if q13 = true then (0 : Int) else (min (x21 + (1 : Int)) (10 : Int)))) else y17)) else (if (((!(decide ((1 : Int) = x5))) || g1004_x13_) && (!p21)) = true then (if (((!(decide ((2 : Int) = x5))) || g1004_x13_) && (!p22)) = true then (if p21 = true then x21 else (if q22 = true then (0 : Int) else (min (x21 + (1 : Int)) (10 : Int)))) else y26) else (if (((!(decide ((2 : Int) = x5))) || g1004_x13_) && (!p22)) = true then y32 else y38))))
  (h46 : y46 = (if (((!(decide ((0 : Int) = x5))) || g1004_x13_) && (!p20)) = true then (if (((!(decide ((1 : Int) = x5))) || g1004_x13_) && (!p21)) = true then (if (((!(decide ((2 : Int) = x5))) || g1004_x13_) && (!p22)) = true then (if p22 = true then x22 else (if q8 = true then (0 : Int) else (min (x22 + (1 : Int)) (10 : Int)))) else (if p22 = true then x22 else (if q11 = true then (0 : Int) else (min (x22 + (1 : Int)) (10 : Int))))) else (if (((!(decide ((2 : Int) = x5))) || g1004_x13_) && (!p22)) = true then (if p22 = true then x22 else (if q14 = true then (0 : Int) else (min (x22 + (1 : Int)) (10 : Int)))) else y19)) else (if (((!(decide ((1 : Int) = x5))) || g1004_x13_) && (!p21)) = true then (if (((!(decide ((2 : Int) = x5))) || g1004_x13_) && (!p22)) = true then (if p22 = true then x22 else (if q23 = true then (0 : Int) else (min (x22 + (1 : Int)) (10 : Int)))) else y28) else (if (((!(decide ((2 : Int) = x5))) || g1004_x13_) && (!p22)) = true then y34 else y40))))
  (h47 : q47 = (if (((!(decide ((0 : Int) = x5))) || g1004_x13_) && (!p20)) = true then (if (((!(decide ((1 : Int) = x5))) || g1004_x13_) && (!p21)) = true then (if (((!(decide ((2 : Int) = x5))) || g1004_x13_) && (!p22)) = true then (p20 || ((!q6) && (decide (x1 ≤ (min (x20 + (1 : Int)) (10 : Int)))))) else (p20 || ((!q9) && (decide (x1 ≤ (min (x20 + (1 : Int)) (10 : Int))))))) else (if (((!(decide ((2 : Int) = x5))) || g1004_x13_) && (!p22)) = true then (p20 || ((!q12) && (decide (x1 ≤ (min (x20 + (1 : Int)) (10 : Int)))))) else q16)) else (if (((!(decide ((1 : Int) = x5))) || g1004_x13_) && (!p21)) = true then (if (((!(decide ((2 : Int) = x5))) || g1004_x13_) && (!p22)) = true then (p20 || ((!q21) && (decide (x1 ≤ (min (x20 + (1 : Int)) (10 : Int)))))) else q25) else (if (((!(decide ((2 : Int) = x5))) || g1004_x13_) && (!p22)) = true then q31 else q37))))
  (h48 : q48 = (if (((!(decide ((0 : Int) = x5))) || g1004_x13_) && (!p20)) = true then (if (((!(decide ((1 : Int) = x5))) || g1004_x13_) && (!p21)) = true then (if (((!(decide ((2 : Int) = x5))) || g1004_x13_) && (!p22)) = true then (p21 || ((!q7) && (decide (x1 ≤ (min (x21 + (1 : Int)) (10 : Int)))))) else (p21 || ((!q10) && (decide (x1 ≤ (min (x21 + (1 : Int)) (10 : Int))))))) else (if (((!(decide ((2 : Int) = x5))) || g1004_x13_) && (!p22)) = true then (p21 || ((!q13) && (decide (x1 ≤ (min (x21 + (1 : Int)) (10 : Int)))))) else q18)) else (if (((!(decide ((1 : Int) = x5))) || g1004_x13_) && (!p21)) = true then (if (((!(decide ((2 : Int) = x5))) || g1004_x13_) && (!p22)) = true then (p21 || ((!q22) && (decide (x1 ≤ (min (x21 + (1 : Int)) (10 : Int)))))) else q27) else (if (((!(decide ((2 : Int) = x5))) || g1004_x13_) && (!p22)) = true then q33 else q39))))
  (h49 : q49 = (if (((!(decide ((0 : Int) = x5))) || g1004_x13_) && (!p20)) = true then (if (((!(decide ((1 : Int) = x5))) || g1004_x13_) && (!p21)) = true then (if (((!(decide ((2 : Int) = x5))) || g1004_x13_) && (!p22)) = true then (p22 || ((!q8) && (decide (x1 ≤ (min (x22 + (1 : Int)) (10 : Int)))))) else (p22 || ((!q11) && (decide (x1 ≤ (min (x22 + (1 : Int)) (10 : Int))))))) else (if (((!(decide ((2 : Int) = x5))) || g1004_x13_) && (!p22)) = true then (p22 || ((!q14) && (decide (x1 ≤ (min (x22 + (1 : Int)) (10 : Int)))))) else q20)) else (if (((!(decide ((1 : Int) = x5))) || g1004_x13_) && (!p21)) = true then (if (((!(decide ((2 : Int) = x5))) || g1004_x13_) && (!p22)) = true then (p22 || ((!q23) && (decide (x1 ≤ (min (x22 + (1 : Int)) (10 : Int)))))) else q29) else (if (((!(decide ((2 : Int) = x5))) || g1004_x13_) && (!p22)) = true then q35 else q41))))
  (h50 : q50 = ((decide (((min (max f1000_x13_ (-900000 : Int)) (900000 : Int)) - x6) ≤ y42)) && (decide (y42 ≤ ((min (max f1000_x13_ (-900000 : Int)) (900000 : Int)) + x6)))))
  (h51 : y51 = (((min (max f1000_x13_ (-900000 : Int)) (900000 : Int)) - x0) - x6))
  (h52 : y52 = (((min (max f1000_x13_ (-900000 : Int)) (900000 : Int)) + x0) + x6))
  (h53 : q53 = (g1004_x13_ && ((decide (y51 ≤ (min (max f1005_x13_ (-1000000 : Int)) (1000000 : Int)))) && (decide ((min (max f1005_x13_ (-1000000 : Int)) (1000000 : Int)) ≤ y52)))))
  (c0 : (((!(decide ((1 : Int) = x5))) && q48) || (((decide ((1 : Int) = x5)) && (decide (x1 ≤ (if q53 = true then (0 : Int) else (x12 + (1 : Int)))))) && (!q48))) = true)
  (c1 : (!(((!(decide ((0 : Int) = x5))) && q47) || (((decide ((0 : Int) = x5)) && (decide (x1 ≤ (if q53 = true then (0 : Int) else (x12 + (1 : Int)))))) && (!q47)))) = true)
  (c2 : q50 = true)
  (c3 : (decide (x13 < x4)) = true)
  (i0 : 0 ≤ x0 ∧ x0 ≤ 1000000)
  (i1 : 1 ≤ x1 ∧ x1 ≤ 10)
  (i2 : 0 ≤ x4 ∧ x4 ≤ 100)
  (i3 : 0 ≤ x5 ∧ x5 ≤ 3)
  (i4 : 0 ≤ x6 ∧ x6 ≤ 1000)
  (i5 : 2 * x6 ≤ x0)
  (i6 : 0 ≤ x12 ∧ x12 ≤ x13)
  (i7 : 0 ≤ x13 ∧ x13 ≤ 100)
  (i8 : 0 ≤ x20 ∧ x20 ≤ 10)
  (i9 : 0 ≤ x21 ∧ x21 ≤ 10)
  (i10 : 0 ≤ x22 ∧ x22 ≤ 10)
  (i11 : -1000000 ≤ x23 ∧ x23 ≤ 1000000)
  (i12 : p20 = true → x5 = 0)
  (i13 : p21 = true → x5 = 1)
  (i14 : p22 = true → x5 = 2)
  (i15 : x5 = 0 → p20 = false → x12 ≤ x20 ∧ x20 < x1)
  (i16 : x5 = 1 → p21 = false → x12 ≤ x21 ∧ x21 < x1)
  (i17 : x5 = 2 → p22 = false → x12 ≤ x22 ∧ x22 < x1)
  : False := by
  have k5 : x5 = 0 ∨ x5 = 1 ∨ x5 = 2 ∨ x5 = 3 := by omega
  obtain ⟨a0, a1⟩ := i0; obtain ⟨a2, a3⟩ := i1; obtain ⟨a4, a5⟩ := i4; obtain ⟨a6, a7⟩ := i6; obtain ⟨a8, a9⟩ := i7; obtain ⟨b0, b1⟩ := i8; obtain ⟨b2, b3⟩ := i9; obtain ⟨b4, b5⟩ := i10; obtain ⟨b6, b7⟩ := i11
  generalize ht : min (max f1000_x13_ (-900000)) 900000 = t at *
  have t1 : -900000 ≤ t := by omega
  have t2 : t ≤ 900000 := by omega
  clear ht
  generalize hl : min (max f1005_x13_ (-1000000)) 1000000 = l at *
  have l1 : -1000000 ≤ l := by omega
  have l2 : l ≤ 1000000 := by omega
  clear hl
  generalize hy0 : min (max f1001_x13_ (0 - x6)) x6 = d0 at *
  have d01 : -x6 ≤ d0 := by omega
  have d02 : d0 ≤ x6 := by omega
  clear hy0
  generalize hy1 : min (max f1002_x13_ (0 - x6)) x6 = d1 at *
  have d11 : -x6 ≤ d1 := by omega
  have d12 : d1 ≤ x6 := by omega
  clear hy1
  generalize hy2 : min (max f1003_x13_ (0 - x6)) x6 = d2 at *
  have d21 : -x6 ≤ d2 := by omega
  have d22 : d2 ≤ x6 := by omega
  clear hy2
  rcases k5 with k5 | k5 | k5 | k5 <;> subst k5
  · have z1 : p21 = false := by cases p21 with | false => rfl | true => exact absurd (i13 rfl) (by omega)
    have z2 : p22 = false := by cases p22 with | false => rfl | true => exact absurd (i14 rfl) (by omega)
    have ii := i15 rfl
    clear i12 i13 i14 i15 i16 i17
    subst z1; subst z2
    simp only [Int.reduceEq, decide_true, decide_false, Bool.not_true, Bool.not_false, Bool.true_or, Bool.false_or, Bool.true_and, Bool.false_and, Bool.and_true, Bool.and_false, Bool.or_false, if_true, if_false, Bool.false_eq_true, Int.zero_le_ofNat] at h0 h1 h2 h3 h4 h5 h6 h7 h8 h9 h10 h11 h12 h13 h14 h15 h16 h17 h18 h19 h20 h21 h22 h23 h24 h25 h26 h27 h28 h29 h30 h31 h32 h33 h34 h35 h36 h37 h38 h39 h40 h41 h42 h43 h44 h45 h46 h47 h48 h49 h50 h51 h52 h53 c0
    subst h53 h52 h51 h50 h49 h48 h47 h46 h45 h44 h43 h42 h41 h40 h39 h38 h37 h36 h35 h34 h33 h32 h31 h30 h29 h28 h27 h26 h25 h24 h23 h22 h21 h20 h19 h18 h17 h16 h15 h14 h13 h12 h11 h10 h9 h8 h7 h6 h5 h4 h3 h2 h1 h0
    cases p20 <;> cases g1004_x13_ <;> (simp only [Bool.true_and, Bool.false_and, Bool.and_true, Bool.and_false, Bool.false_eq_true, if_false, if_true, Bool.not_true, Bool.not_false, Bool.not_eq_true', decide_eq_true_eq, decide_eq_false_iff_not, Bool.or_eq_true, Bool.and_eq_true, Bool.false_or, Bool.true_or, Bool.or_false, Bool.or_true, false_or, true_or, or_false, or_true, true_implies, forall_const, false_implies, Int.reduceEq, Int.reduceLE, Int.reduceLT, decide_true, decide_false, Bool.not_eq_false', Bool.true_eq_false, and_true, true_and, false_and, and_false, not_true, not_false_iff, ite_true, ite_false, Bool.if_false_left, imp_self] at * <;> (try omega) <;> (try simp only [Bool.and_eq_false_iff, Bool.or_eq_false_iff, decide_eq_false_iff_not, Bool.not_eq_true', decide_eq_true_eq] at *) <;> (try omega) <;> grind)
  · have z0 : p20 = false := by cases p20 with | false => rfl | true => exact absurd (i12 rfl) (by omega)
    have z2 : p22 = false := by cases p22 with | false => rfl | true => exact absurd (i14 rfl) (by omega)
    have ii := i16 rfl
    clear i12 i13 i14 i15 i16 i17
    subst z0; subst z2
    simp only [Int.reduceEq, decide_true, decide_false, Bool.not_true, Bool.not_false, Bool.true_or, Bool.false_or, Bool.true_and, Bool.false_and, Bool.and_true, Bool.and_false, Bool.or_false, if_true, if_false, Bool.false_eq_true, Int.zero_le_ofNat] at h0 h1 h2 h3 h4 h5 h6 h7 h8 h9 h10 h11 h12 h13 h14 h15 h16 h17 h18 h19 h20 h21 h22 h23 h24 h25 h26 h27 h28 h29 h30 h31 h32 h33 h34 h35 h36 h37 h38 h39 h40 h41 h42 h43 h44 h45 h46 h47 h48 h49 h50 h51 h52 h53 c0
    subst h53 h52 h51 h50 h49 h48 h47 h46 h45 h44 h43 h42 h41 h40 h39 h38 h37 h36 h35 h34 h33 h32 h31 h30 h29 h28 h27 h26 h25 h24 h23 h22 h21 h20 h19 h18 h17 h16 h15 h14 h13 h12 h11 h10 h9 h8 h7 h6 h5 h4 h3 h2 h1 h0
    cases p21 <;> cases g1004_x13_ <;> (simp only [Bool.true_and, Bool.false_and, Bool.and_true, Bool.and_false, Bool.false_eq_true, if_false, if_true, Bool.not_true, Bool.not_false, Bool.not_eq_true', decide_eq_true_eq, decide_eq_false_iff_not, Bool.or_eq_true, Bool.and_eq_true, Bool.false_or, Bool.true_or, Bool.or_false, Bool.or_true, false_or, true_or, or_false, or_true, true_implies, forall_const, false_implies, Int.reduceEq, Int.reduceLE, Int.reduceLT, decide_true, decide_false, Bool.not_eq_false', Bool.true_eq_false, and_true, true_and, false_and, and_false, not_true, not_false_iff, ite_true, ite_false, Bool.if_false_left, imp_self] at * <;> (try omega) <;> (try simp only [Bool.and_eq_false_iff, Bool.or_eq_false_iff, decide_eq_false_iff_not, Bool.not_eq_true', decide_eq_true_eq] at *) <;> (try omega) <;> grind)
  · have z0 : p20 = false := by cases p20 with | false => rfl | true => exact absurd (i12 rfl) (by omega)
    have z1 : p21 = false := by cases p21 with | false => rfl | true => exact absurd (i13 rfl) (by omega)
    have ii := i17 rfl
    clear i12 i13 i14 i15 i16 i17
    subst z0; subst z1
    simp only [Int.reduceEq, decide_true, decide_false, Bool.not_true, Bool.not_false, Bool.true_or, Bool.false_or, Bool.true_and, Bool.false_and, Bool.and_true, Bool.and_false, Bool.or_false, if_true, if_false, Bool.false_eq_true, Int.zero_le_ofNat] at h0 h1 h2 h3 h4 h5 h6 h7 h8 h9 h10 h11 h12 h13 h14 h15 h16 h17 h18 h19 h20 h21 h22 h23 h24 h25 h26 h27 h28 h29 h30 h31 h32 h33 h34 h35 h36 h37 h38 h39 h40 h41 h42 h43 h44 h45 h46 h47 h48 h49 h50 h51 h52 h53 c0
    subst h53 h52 h51 h50 h49 h48 h47 h46 h45 h44 h43 h42 h41 h40 h39 h38 h37 h36 h35 h34 h33 h32 h31 h30 h29 h28 h27 h26 h25 h24 h23 h22 h21 h20 h19 h18 h17 h16 h15 h14 h13 h12 h11 h10 h9 h8 h7 h6 h5 h4 h3 h2 h1 h0
    cases p22 <;> cases g1004_x13_ <;> (simp only [Bool.true_and, Bool.false_and, Bool.and_true, Bool.and_false, Bool.false_eq_true, if_false, if_true, Bool.not_true, Bool.not_false, Bool.not_eq_true', decide_eq_true_eq, decide_eq_false_iff_not, Bool.or_eq_true, Bool.and_eq_true, Bool.false_or, Bool.true_or, Bool.or_false, Bool.or_true, false_or, true_or, or_false, or_true, true_implies, forall_const, false_implies, Int.reduceEq, Int.reduceLE, Int.reduceLT, decide_true, decide_false, Bool.not_eq_false', Bool.true_eq_false, and_true, true_and, false_and, and_false, not_true, not_false_iff, ite_true, ite_false, Bool.if_false_left, imp_self] at * <;> (try omega) <;> (try simp only [Bool.and_eq_false_iff, Bool.or_eq_false_iff, decide_eq_false_iff_not, Bool.not_eq_true', decide_eq_true_eq] at *) <;> (try omega) <;> grind)
  · have z0 : p20 = false := by cases p20 with | false => rfl | true => exact absurd (i12 rfl) (by omega)
    have z1 : p21 = false := by cases p21 with | false => rfl | true => exact absurd (i13 rfl) (by omega)
    have z2 : p22 = false := by cases p22 with | false => rfl | true => exact absurd (i14 rfl) (by omega)
    clear i12 i13 i14 i15 i16 i17
    subst z0; subst z1; subst z2
    simp only [Int.reduceEq, decide_true, decide_false, Bool.not_true, Bool.not_false, Bool.true_or, Bool.false_or, Bool.true_and, Bool.false_and, Bool.and_true, Bool.and_false, Bool.or_false, if_true, if_false, Bool.false_eq_true, Int.zero_le_ofNat] at h0 h1 h2 h3 h4 h5 h6 h7 h8 h9 h10 h11 h12 h13 h14 h15 h16 h17 h18 h19 h20 h21 h22 h23 h24 h25 h26 h27 h28 h29 h30 h31 h32 h33 h34 h35 h36 h37 h38 h39 h40 h41 h42 h43 h44 h45 h46 h47 h48 h49 h50 h51 h52 h53 c0
    subst h53 h52 h51 h50 h49 h48 h47 h46 h45 h44 h43 h42 h41 h40 h39 h38 h37 h36 h35 h34 h33 h32 h31 h30 h29 h28 h27 h26 h25 h24 h23 h22 h21 h20 h19 h18 h17 h16 h15 h14 h13 h12 h11 h10 h9 h8 h7 h6 h5 h4 h3 h2 h1 h0
    cases g1004_x13_ <;> (simp only [Bool.true_and, Bool.false_and, Bool.and_true, Bool.and_false, Bool.false_eq_true, if_false, if_true, Bool.not_true, Bool.not_false, Bool.not_eq_true', decide_eq_true_eq, decide_eq_false_iff_not, Bool.or_eq_true, Bool.and_eq_true, Bool.false_or, Bool.true_or, Bool.or_false, Bool.or_true, false_or, true_or, or_false, or_true, true_implies, forall_const, false_implies, Int.reduceEq, Int.reduceLE, Int.reduceLT, decide_true, decide_false, Bool.not_eq_false', Bool.true_eq_false, and_true, true_and, false_and, and_false, not_true, not_false_iff, ite_true, ite_false, Bool.if_false_left, imp_self] at * <;> (try omega) <;> (try simp only [Bool.and_eq_false_iff, Bool.or_eq_false_iff, decide_eq_false_iff_not, Bool.not_eq_true', decide_eq_true_eq] at *) <;> (try omega) <;> grind)

set_option maxHeartbeats 4000000 in
theorem tv_3 {f1000_x13_ f1001_x13_ f1002_x13_ f1003_x13_ f1005_x13_ x0 x1 x12 x13 x20 x21 x22 x23 x4 x5 x6 y0 y1 y15 y17 y19 y2 y24 y26 y28 y3 y30 y32 y34 y36 y38 y4 y40 y42 y43 y44 y45 y46 y5 y51 y52 : Int} {g1004_x13_ p20 p21 p22 q10 q11 q12 q13 q14 q16 q18 q20 q21 q22 q23 q25 q27 q29 q31 q33 q35 q37 q39 q41 q47 q48 q49 q50 q53 q6 q7 q8 q9 : Bool}
  (h0 : y0 = ((min (max f1000_x13_ (-900000 : Int)) (900000 : Int)) + (min (max f1001_x13_ ((0 : Int) - x6)) x6)))
  (h1 : y1 = (if (decide ((0 : Int) = x5)) = true then (min (max f1005_x13_ (-1000000 : Int)) (1000000 : Int)) else y0))
  (h2 : y2 = ((min (max f1000_x13_ (-900000 : Int)) (900000 : Int)) + (min (max f1002_x13_ ((0 : Int) - x6)) x6)))
  (h3 : y3 = (if (decide ((1 : Int) = x5)) = true then (min (max f1005_x13_ (-1000000 : Int)) (1000000 : Int)) else y2))
  (h4 : y4 = ((min (max f1000_x13_ (-900000 : Int)) (900000 : Int)) + (min (max f1003_x13_ ((0 : Int) - x6)) x6)))
  (h5 : y5 = (if (decide ((2 : Int) = x5)) = true then (min (max f1005_x13_ (-1000000 : Int)) (1000000 : Int)) else y4))
  (h6 : q6 = ((((!(decide ((0 : Int) = x5))) || g1004_x13_) && (decide ((y1 - (max (min y1 y3) (min (max y1 y3) y5))) ≤ x0))) && (decide (((max (min y1 y3) (min (max y1 y3) y5)) - y1) ≤ x0))))
  (h7 : q7 = ((((!(decide ((1 : Int) = x5))) || g1004_x13_) && (decide ((y3 - (max (min y1 y3) (min (max y1 y3) y5))) ≤ x0))) && (decide (((max (min y1 y3) (min (max y1 y3) y5)) - y3) ≤ x0))))
  (h8 : q8 = ((((!(decide ((2 : Int) = x5))) || g1004_x13_) && (decide ((y5 - (max (min y1 y3) (min (max y1 y3) y5))) ≤ x0))) && (decide (((max (min y1 y3) (min (max y1 y3) y5)) - y5) ≤ x0))))
  (h9 : q9 = ((((!(decide ((0 : Int) = x5))) || g1004_x13_) && (decide ((y1 - ((y1 + y3) / (2 : Int))) ≤ x0))) && (decide ((((y1 + y3) / (2 : Int)) - y1) ≤ x0))))
  (h10 : q10 = ((((!(decide ((1 : Int) = x5))) || g1004_x13_) && (decide ((y3 - ((y1 + y3) / (2 : Int))) ≤ x0))) && (decide ((((y1 + y3) / (2 : Int)) - y3) ≤ x0))))
  (h11 : q11 = ((((!(decide ((2 : Int) = x5))) || g1004_x13_) && (decide ((y5 - ((y1 + y3) / (2 : Int))) ≤ x0))) && (decide ((((y1 + y3) / (2 : Int)) - y5) ≤ x0))))
  (h12 : q12 = ((((!(decide ((0 : Int) = x5))) || g1004_x13_) && (decide ((y1 - ((y1 + y5) / (2 : Int))) ≤ x0))) && (decide ((((y1 + y5) / (2 : Int)) - y1) ≤ x0))))
  (h13 : q13 = ((((!(decide ((1 : Int) = x5))) || g1004_x13_) && (decide ((y3 - ((y1 + y5) / (2 : Int))) ≤ x0))) && (decide ((((y1 + y5) / (2 : Int)) - y3) ≤ x0))))
  (h14 : q14 = ((((!(decide ((2 : Int) = x5))) || g1004_x13_) && (decide ((y5 - ((y1 + y5) / (2 : Int))) ≤ x0))) && (decide ((((y1 + y5) / (2 : Int)) - y5) ≤ x0))))
  (h15 : y15 = (if p20 = true then x20 else (if ((((!(decide ((0 : Int) = x5))) || g1004_x13_) && (decide ((0 : Int) ≤ x0))) && (decide ((0 : Int) ≤ x0))) = true then (0 : Int) else (min (x20 + (1 : Int)) (10 : Int)))))
  (h16 : q16 = (p20 || ((!((((!(decide ((0 : Int) = x5))) || g1004_x13_) && (decide ((0 : Int) ≤ x0))) && (decide ((0 : Int) ≤ x0)))) && (decide (x1 ≤ (min (x20 + (1 : Int)) (10 : Int)))))))
  (h17 : y17 = (if p21 = true then x21 else (if ((((!(decide ((1 : Int) = x5))) || g1004_x13_) && (decide ((y3 - y1) ≤ x0))) && (decide ((y1 - y3) ≤ x0))) = true then (0 : Int) else (min (x21 + (1 : Int)) (10 : Int)))))
  (h18 : q18 = (p21 || ((!((((!(decide ((1 : Int) = x5))) || g1004_x13_) && (decide ((y3 - y1) ≤ x0))) && (decide ((y1 - y3) ≤ x0)))) && (decide (x1 ≤ (min (x21 + (1 : Int)) (10 : Int)))))))
  (h19 : y19 = (if p22 = true then x22 else (if ((((!(decide ((2 : Int) = x5))) || g1004_x13_) && (decide ((y5 - y1) ≤ x0))) && (decide ((y1 - y5) ≤ x0))) = true then (0 : Int) else (min (x22 + (1 : Int)) (10 : Int)))))
  (h20 : q20 = (p22 || ((!((((!(decide ((2 : Int) = x5))) || g1004_x13_) && (decide ((y5 - y1) ≤ x0))) && (decide ((y1 - y5) ≤ x0)))) && (decide (x1 ≤ (min (x22 + (1 : Int)) (10 : Int)))))))
  (h21 : q21 = ((((!(decide ((0 : Int) = x5))) || g1004_x13_) && (decide ((y1 - ((y3 + y5) / (2 : Int))) ≤ x0))) && (decide ((((y3 + y5) / (2 : Int)) - y1) ≤ x0))))
  (h22 : q22 = ((((!(decide ((1 : Int) = x5))) || g1004_x13_) && (decide ((y3 - ((y3 + y5) / (2 : Int))) ≤ x0))) && (decide ((((y3 + y5) / (2 : Int)) - y3) ≤ x0))))
  (h23 : q23 = ((((!(decide ((2 : Int) = x5))) || g1004_x13_) && (decide ((y5 - ((y3 + y5) / (2 : Int))) ≤ x0))) && (decide ((((y3 + y5) / (2 : Int)) - y5) ≤ x0))))
  (h24 : y24 = (if p20 = true then x20 else (if ((((!(decide ((0 : Int) = x5))) || g1004_x13_) && (decide ((y1 - y3) ≤ x0))) && (decide ((y3 - y1) ≤ x0))) = true then (0 : Int) else (min (x20 + (1 : Int)) (10 : Int)))))
  (h25 : q25 = (p20 || ((!((((!(decide ((0 : Int) = x5))) || g1004_x13_) && (decide ((y1 - y3) ≤ x0))) && (decide ((y3 - y1) ≤ x0)))) && (decide (x1 ≤ (min (x20 + (1 : Int)) (10 : Int)))))))
  (h26 : y26 = (if p21 = true then x21 else (if ((((!(decide ((1 : Int) = x5))) || g1004_x13_) && (decide ((0 : Int) ≤ x0))) && (decide ((0 : Int) ≤ x0))) = true then (0 : Int) else (min (x21 + (1 : Int)) (10 : Int)))))
  (h27 : q27 = (p21 || ((!((((!(decide ((1 : Int) = x5))) || g1004_x13_) && (decide ((0 : Int) ≤ x0))) && (decide ((0 : Int) ≤ x0)))) && (decide (x1 ≤ (min (x21 + (1 : Int)) (10 : Int)))))))
  (h28 : y28 = (if p22 = true then x22 else (if ((((!(decide ((2 : Int) = x5))) || g1004_x13_) && (decide ((y5 - y3) ≤ x0))) && (decide ((y3 - y5) ≤ x0))) = true then (0 : Int) else (min (x22 + (1 : Int)) (10 : Int)))))
  (h29 : q29 = (p22 || ((!((((!(decide ((2 : Int) = x5))) || g1004_x13_) && (decide ((y5 - y3) ≤ x0))) && (decide ((y3 - y5) ≤ x0)))) && (decide (x1 ≤ (min (x22 + (1 : Int)) (10 : Int)))))))
  (h30 : y30 = (if p20 = true then x20 else (if ((((!(decide ((0 : Int) = x5))) || g1004_x13_) && (decide ((y1 - y5) ≤ x0))) && (decide ((y5 - y1) ≤ x0))) = true then (0 : Int) else (min (x20 + (1 : Int)) (10 : Int)))))
  (h31 : q31 = (p20 || ((!((((!(decide ((0 : Int) = x5))) || g1004_x13_) && (decide ((y1 - y5) ≤ x0))) && (decide ((y5 - y1) ≤ x0)))) && (decide (x1 ≤ (min (x20 + (1 : Int)) (10 : Int)))))))
  (h32 : y32 = (if p21 = true then x21 else (if ((((!(decide ((1 : Int) = x5))) || g1004_x13_) && (decide ((y3 - y5) ≤ x0))) && (decide ((y5 - y3) ≤ x0))) = true then (0 : Int) else (min (x21 + (1 : Int)) (10 : Int)))))
  (h33 : q33 = (p21 || ((!((((!(decide ((1 : Int) = x5))) || g1004_x13_) && (decide ((y3 - y5) ≤ x0))) && (decide ((y5 - y3) ≤ x0)))) && (decide (x1 ≤ (min (x21 + (1 : Int)) (10 : Int)))))))
  (h34 : y34 = (if p22 = true then x22 else (if ((((!(decide ((2 : Int) = x5))) || g1004_x13_) && (decide ((0 : Int) ≤ x0))) && (decide ((0 : Int) ≤ x0))) = true then (0 : Int) else (min (x22 + (1 : Int)) (10 : Int)))))
  (h35 : q35 = (p22 || ((!((((!(decide ((2 : Int) = x5))) || g1004_x13_) && (decide ((0 : Int) ≤ x0))) && (decide ((0 : Int) ≤ x0)))) && (decide (x1 ≤ (min (x22 + (1 : Int)) (10 : Int)))))))
  (h36 : y36 = (if p20 = true then x20 else (if ((((!(decide ((0 : Int) = x5))) || g1004_x13_) && (decide ((y1 - x23) ≤ x0))) && (decide ((x23 - y1) ≤ x0))) = true then (0 : Int) else (min (x20 + (1 : Int)) (10 : Int)))))
  (h37 : q37 = (p20 || ((!((((!(decide ((0 : Int) = x5))) || g1004_x13_) && (decide ((y1 - x23) ≤ x0))) && (decide ((x23 - y1) ≤ x0)))) && (decide (x1 ≤ (min (x20 + (1 : Int)) (10 : Int)))))))
  (h38 : y38 = (if p21 = true then x21 else (if ((((!(decide ((1 : Int) = x5))) || g1004_x13_) && (decide ((y3 - x23) ≤ x0))) && (decide ((x23 - y3) ≤ x0))) = true then (0 : Int) else (min (x21 + (1 : Int)) (10 : Int)))))
  (h39 : q39 = (p21 || ((!((((!(decide ((1 : Int) = x5))) || g1004_x13_) && (decide ((y3 - x23) ≤ x0))) && (decide ((x23 - y3) ≤ x0)))) && (decide (x1 ≤ (min (x21 + (1 : Int)) (10 : Int)))))))
  (h40 : y40 = (if p22 = true then x22 else (if ((((!(decide ((2 : Int) = x5))) || g1004_x13_) && (decide ((y5 - x23) ≤ x0))) && (decide ((x23 - y5) ≤ x0))) = true then (0 : Int) else (min (x22 + (1 : Int)) (10 : Int)))))
  (h41 : q41 = (p22 || ((!((((!(decide ((2 : Int) = x5))) || g1004_x13_) && (decide ((y5 - x23) ≤ x0))) && (decide ((x23 - y5) ≤ x0)))) && (decide (x1 ≤ (min (x22 + (1 : Int)) (10 : Int)))))))
  (h42 : y42 = (if (((!(decide ((0 : Int) = x5))) || g1004_x13_) && (!p20)) = true then (if (((!(decide ((1 : Int) = x5))) || g1004_x13_) && (!p21)) = true then (if (((!(decide ((2 : Int) = x5))) || g1004_x13_) && (!p22)) = true then (max (min y1 y3) (min (max y1 y3) y5)) else ((y1 + y3) / (2 : Int))) else (if (((!(decide ((2 : Int) = x5))) || g1004_x13_) && (!p22)) = true then ((y1 + y5) / (2 : Int)) else y1)) else (if (((!(decide ((1 : Int) = x5))) || g1004_x13_) && (!p21)) = true then (if (((!(decide ((2 : Int) = x5))) || g1004_x13_) && (!p22)) = true then ((y3 + y5) / (2 : Int)) else y3) else (if (((!(decide ((2 : Int) = x5))) || g1004_x13_) && (!p22)) = true then y5 else x23))))
  (h43 : y43 = (if (((!(decide ((0 : Int) = x5))) || g1004_x13_) && (!p20)) = true then (if (((!(decide ((1 : Int) = x5))) || g1004_x13_) && (!p21)) = true then (if (((!(decide ((2 : Int) = x5))) || g1004_x13_) && (!p22)) = true then (3 : Int) else (2 : Int)) else (if (((!(decide ((2 : Int) = x5))) || g1004_x13_) && (!p22)) = true then (2 : Int) else (1 : Int))) else (if (((!(decide ((1 : Int) = x5))) || g1004_x13_) && (!p21)) = true then (if (((!(decide ((2 : Int) = x5))) || g1004_x13_) && (!p22)) = true then (2 : Int) else (1 : Int)) else (if (((!(decide ((2 : Int) = x5))) || g1004_x13_) && (!p22)) = true then (1 : Int) else (0 : Int)))))
  (h44 : y44 = (if (((!(decide ((0 : Int) = x5))) || g1004_x13_) && (!p20)) = true then (if (((!(decide ((1 : Int) = x5))) || g1004_x13_) && (!p21)) = true then (if (((!(decide ((2 : Int) = x5))) || g1004_x13_) && (!p22)) = true then (if p20 = true then x20 else (if q6 = true then (0 : Int) else (min (x20 + (1 : Int)) (10 : Int)))) else (if p20 = true then x20 else (if q9 = true then (0 : Int) else (min (x20 + (1 : Int)) (10 : Int))))) else (if (((!(decide ((2 : Int) = x5))) || g1004_x13_) && (!p22)) = true then (if p20 = true then x20 else (if q12 = true then (0 : Int) else (min (x20 + (1 : Int)) (10 : Int)))) else y15)) else (if (((!(decide ((1 : Int) = x5))) || g1004_x13_) && (!p21)) = true then (if (((!(decide ((2 : Int) = x5))) || g1004_x13_) && (!p22)) = true then (if p20 = true then x20 else (if q21 = true then (0 : Int) else (min (x20 + (1 : Int)) (10 : Int)))) else y24) else (if (((!(decide ((2 : Int) = x5))) || g1004_x13_) && (!p22)) = true then y30 else y36))))
  (h45 : y45 = (if (((!(decide ((0 : Int) = x5))) || g1004_x13_) && (!p20)) = true then (if (((!(decide ((1 : Int) = x5))) || g1004_x13_) && (!p21)) = true then (if (((!(decide ((2 : Int) = x5))) || g1004_x13_) && (!p22)) = true then (if p21 = true then x21 else (if q7 = true then (0 : Int) else (min (x21 + (1 : Int)) (10 : Int)))) else (if p21 = true then x21 else (if q10 = true then (0 : Int) else (min (x21 + (1 : Int)) (10 : Int))))) else (if (((!(decide ((2 : Int) = x5))) || g1004_x13_) && (!p22)) = true then (if p21 = true then x21 else (if q13 = true then (0 : Int) else (min (x21 + (1 : Int)) (10 : Int)))) else y17)) else (if (((!(decide ((1 : Int) = x5))) || g1004_x13_) && (!p21)) = true then (if (((!(decide ((2 : Int) = x5))) || g1004_x13_) && (!p22)) = true then (if p21 = true then x21 else (if q22 = true then (0 : Int) else (min (x21 + (1 : Int)) (10 : Int)))) else y26) else (if (((!(decide ((2 : Int) = x5))) || g1004_x13_) && (!p22)) = true then y32 else y38))))
  (h46 : y46 = (if (((!(decide ((0 : Int) = x5))) || g1004_x13_) && (!p20)) = true then (if (((!(decide ((1 : Int) = x5))) || g1004_x13_) && (!p21)) = true then (if (((!(decide ((2 : Int) = x5))) || g1004_x13_) && (!p22)) = true then (if p22 = true then x22 else (if q8 = true then (0 : Int) else (min (x22 + (1 : Int)) (10 : Int)))) else (if p22 = true then x22 else (if q11 = true then (0 : Int) else (min (x22 + (1 : Int)) (10 : Int))))) else (if (((!(decide ((2 : Int) = x5))) || g1004_x13_) && (!p22)) = true then (if p22 = true then x22 else (if q14 = true then (0 : Int) else (min (x22 + (1 : Int)) (10 : Int)))) else y19)) else (if (((!(decide ((1 : Int) = x5))) || g1004_x13_) && (!p21)) = true then (if (((!(decide ((2 : Int) = x5))) || g1004_x13_) && (!p22)) = true then (if p22 = true then x22 else (if q23 = true then (0 : Int) else (min (x22 + (1 : Int)) (10 : Int)))) else y28) else (if (((!(decide ((2 : Int) = x5))) || g1004_x13_) && (!p22)) = true then y34 else y40))))
  (h47 : q47 = (if (((!(decide ((0 : Int) = x5))) || g1004_x13_) && (!p20)) = true then (if (((!(decide ((1 : Int) = x5))) || g1004_x13_) && (!p21)) = true then (if (((!(decide ((2 : Int) = x5))) || g1004_x13_) && (!p22)) = true then (p20 || ((!q6) && (decide (x1 ≤ (min (x20 + (1 : Int)) (10 : Int)))))) else (p20 || ((!q9) && (decide (x1 ≤ (min (x20 + (1 : Int)) (10 : Int))))))) else (if (((!(decide ((2 : Int) = x5))) || g1004_x13_) && (!p22)) = true then (p20 || ((!q12) && (decide (x1 ≤ (min (x20 + (1 : Int)) (10 : Int)))))) else q16)) else (if (((!(decide ((1 : Int) = x5))) || g1004_x13_) && (!p21)) = true then (if (((!(decide ((2 : Int) = x5))) || g1004_x13_) && (!p22)) = true then (p20 || ((!q21) && (decide (x1 ≤ (min (x20 + (1 : Int)) (10 : Int)))))) else q25) else (if (((!(decide ((2 : Int) = x5))) || g1004_x13_) && (!p22)) = true then q31 else q37))))
  (h48 : q48 = (if (((!(decide ((0 : Int) = x5))) || g1004_x13_) && (!p20)) = true then (if (((!(decide ((1 : Int) = x5))) || g1004_x13_) && (!p21)) = true then (if (((!(decide ((2 : Int) = x5))) || g1004_x13_) && (!p22)) = true then (p21 || ((!q7) && (decide (x1 ≤ (min (x21 + (1 : Int)) (10 : Int)))))) else (p21 || ((!q10) && (decide (x1 ≤ (min (x21 + (1 : Int)) (10 : Int))))))) else (if (((!(decide ((2 : Int) = x5))) || g1004_x13_) && (!p22)) = true then (p21 || ((!q13) && (decide (x1 ≤ (min (x21 + (1 : Int)) (10 : Int)))))) else q18)) else (if (((!(decide ((1 : Int) = x5))) || g1004_x13_) && (!p21)) = true then (if (((!(decide ((2 : Int) = x5))) || g1004_x13_) && (!p22)) = true then (p21 || ((!q22) && (decide (x1 ≤ (min (x21 + (1 : Int)) (10 : Int)))))) else q27) else (if (((!(decide ((2 : Int) = x5))) || g1004_x13_) && (!p22)) = true then q33 else q39))))
  (h49 : q49 = (if (((!(decide ((0 : Int) = x5))) || g1004_x13_) && (!p20)) = true then (if (((!(decide ((1 : Int) = x5))) || g1004_x13_) && (!p21)) = true then (if (((!(decide ((2 : Int) = x5))) || g1004_x13_) && (!p22)) = true then (p22 || ((!q8) && (decide (x1 ≤ (min (x22 + (1 : Int)) (10 : Int)))))) else (p22 || ((!q11) && (decide (x1 ≤ (min (x22 + (1 : Int)) (10 : Int))))))) else (if (((!(decide ((2 : Int) = x5))) || g1004_x13_) && (!p22)) = true then (p22 || ((!q14) && (decide (x1 ≤ (min (x22 + (1 : Int)) (10 : Int)))))) else q20)) else (if (((!(decide ((1 : Int) = x5))) || g1004_x13_) && (!p21)) = true then (if (((!(decide ((2 : Int) = x5))) || g1004_x13_) && (!p22)) = true then (p22 || ((!q23) && (decide (x1 ≤ (min (x22 + (1 : Int)) (10 : Int)))))) else q29) else (if (((!(decide ((2 : Int) = x5))) || g1004_x13_) && (!p22)) = true then q35 else q41))))
  (h50 : q50 = ((decide (((min (max f1000_x13_ (-900000 : Int)) (900000 : Int)) - x6) ≤ y42)) && (decide (y42 ≤ ((min (max f1000_x13_ (-900000 : Int)) (900000 : Int)) + x6)))))
  (h51 : y51 = (((min (max f1000_x13_ (-900000 : Int)) (900000 : Int)) - x0) - x6))
  (h52 : y52 = (((min (max f1000_x13_ (-900000 : Int)) (900000 : Int)) + x0) + x6))
  (h53 : q53 = (g1004_x13_ && ((decide (y51 ≤ (min (max f1005_x13_ (-1000000 : Int)) (1000000 : Int)))) && (decide ((min (max f1005_x13_ (-1000000 : Int)) (1000000 : Int)) ≤ y52)))))
  (c0 : (((!(decide ((2 : Int) = x5))) && q49) || (((decide ((2 : Int) = x5)) && (decide (x1 ≤ (if q53 = true then (0 : Int) else (x12 + (1 : Int)))))) && (!q49))) = true)
  (c1 : (!(((!(decide ((1 : Int) = x5))) && q48) || (((decide ((1 : Int) = x5)) && (decide (x1 ≤ (if q53 = true then (0 : Int) else (x12 + (1 : Int)))))) && (!q48)))) = true)
  (c2 : (!(((!(decide ((0 : Int) = x5))) && q47) || (((decide ((0 : Int) = x5)) && (decide (x1 ≤ (if q53 = true then (0 : Int) else (x12 + (1 : Int)))))) && (!q47)))) = true)
  (c3 : q50 = true)
  (c4 : (decide (x13 < x4)) = true)
  (i0 : 0 ≤ x0 ∧ x0 ≤ 1000000)
  (i1 : 1 ≤ x1 ∧ x1 ≤ 10)
  (i2 : 0 ≤ x4 ∧ x4 ≤ 100)
  (i3 : 0 ≤ x5 ∧ x5 ≤ 3)
  (i4 : 0 ≤ x6 ∧ x6 ≤ 1000)
  (i5 : 2 * x6 ≤ x0)
  (i6 : 0 ≤ x12 ∧ x12 ≤ x13)
  (i7 : 0 ≤ x13 ∧ x13 ≤ 100)
  (i8 : 0 ≤ x20 ∧ x20 ≤ 10)
  (i9 : 0 ≤ x21 ∧ x21 ≤ 10)
  (i10 : 0 ≤ x22 ∧ x22 ≤ 10)
  (i11 : -1000000 ≤ x23 ∧ x23 ≤ 1000000)
  (i12 : p20 = true → x5 = 0)
  (i13 : p21 = true → x5 = 1)
  (i14 : p22 = true → x5 = 2)
  (i15 : x5 = 0 → p20 = false → x12 ≤ x20 ∧ x20 < x1)
  (i16 : x5 = 1 → p21 = false → x12 ≤ x21 ∧ x21 < x1)
  (i17 : x5 = 2 → p22 = false → x12 ≤ x22 ∧ x22 < x1)
  : False := by
  have k5 : x5 = 0 ∨ x5 = 1 ∨ x5 = 2 ∨ x5 = 3 := by omega
  obtain ⟨a0, a1⟩ := i0; obtain ⟨a2, a3⟩ := i1; obtain ⟨a4, a5⟩ := i4; obtain ⟨a6, a7⟩ := i6; obtain ⟨a8, a9⟩ := i7; obtain ⟨b0, b1⟩ := i8; obtain ⟨b2, b3⟩ := i9; obtain ⟨b4, b5⟩ := i10; obtain ⟨b6, b7⟩ := i11
  generalize ht : min (max f1000_x13_ (-900000)) 900000 = t at *
  have t1 : -900000 ≤ t := by omega
  have t2 : t ≤ 900000 := by omega
  clear ht
  generalize hl : min (max f1005_x13_ (-1000000)) 1000000 = l at *
  have l1 : -1000000 ≤ l := by omega
  have l2 : l ≤ 1000000 := by omega
  clear hl
  generalize hy0 : min (max f1001_x13_ (0 - x6)) x6 = d0 at *
  have d01 : -x6 ≤ d0 := by omega
  have d02 : d0 ≤ x6 := by omega
  clear hy0
  generalize hy1 : min (max f1002_x13_ (0 - x6)) x6 = d1 at *
  have d11 : -x6 ≤ d1 := by omega
  have d12 : d1 ≤ x6 := by omega
  clear hy1
  generalize hy2 : min (max f1003_x13_ (0 - x6)) x6 = d2 at *
  have d21 : -x6 ≤ d2 := by omega
  have d22 : d2 ≤ x6 := by omega
  clear hy2
  rcases k5 with k5 | k5 | k5 | k5 <;> subst k5
  · have z1 : p21 = false := by cases p21 with | false => rfl | true => exact absurd (i13 rfl) (by omega)
    have z2 : p22 = false := by cases p22 with | false => rfl | true => exact absurd (i14 rfl) (by omega)
    have ii := i15 rfl
    clear i12 i13 i14 i15 i16 i17
    subst z1; subst z2
    simp only [Int.reduceEq, decide_true, decide_false, Bool.not_true, Bool.not_false, Bool.true_or, Bool.false_or, Bool.true_and, Bool.false_and, Bool.and_true, Bool.and_false, Bool.or_false, if_true, if_false, Bool.false_eq_true, Int.zero_le_ofNat] at h0 h1 h2 h3 h4 h5 h6 h7 h8 h9 h10 h11 h12 h13 h14 h15 h16 h17 h18 h19 h20 h21 h22 h23 h24 h25 h26 h27 h28 h29 h30 h31 h32 h33 h34 h35 h36 h37 h38 h39 h40 h41 h42 h43 h44 h45 h46 h47 h48 h49 h50 h51 h52 h53 c0
    subst h53 h52 h51 h50 h49 h48 h47 h46 h45 h44 h43 h42 h41 h40 h39 h38 h37 h36 h35 h34 h33 h32 h31 h30 h29 h28 h27 h26 h25 h24 h23 h22 h21 h20 h19 h18 h17 h16 h15 h14 h13 h12 h11 h10 h9 h8 h7 h6 h5 h4 h3 h2 h1 h0
    cases p20 <;> cases g1004_x13_ <;> (simp only [Bool.true_and, Bool.false_and, Bool.and_true, Bool.and_false, Bool.false_eq_true, if_false, if_true, Bool.not_true, Bool.not_false, Bool.not_eq_true', decide_eq_true_eq, decide_eq_false_iff_not, Bool.or_eq_true, Bool.and_eq_true, Bool.false_or, Bool.true_or, Bool.or_false, Bool.or_true, false_or, true_or, or_false, or_true, true_implies, forall_const, false_implies, Int.reduceEq, Int.reduceLE, Int.reduceLT, decide_true, decide_false, Bool.not_eq_false', Bool.true_eq_false, and_true, true_and, false_and, and_false, not_true, not_false_iff, ite_true, ite_false, Bool.if_false_left, imp_self] at * <;> (try omega) <;> (try simp only [Bool.and_eq_false_iff, Bool.or_eq_false_iff, decide_eq_false_iff_not, Bool.not_eq_true', decide_eq_true_eq] at *) <;> (try omega) <;> grind)
  · have z0 : p20 = false := by cases p20 with | false => rfl | true => exact absurd (i12 rfl) (by omega)
    have z2 : p22 = false := by cases p22 with | false => rfl | true => exact absurd (i14 rfl) (by omega)
    have ii := i16 rfl
    clear i12 i13 i14 i15 i16 i17
    subst z0; subst z2
    simp only [Int.reduceEq, decide_true, decide_false, Bool.not_true, Bool.not_false, Bool.true_or, Bool.false_or, Bool.true_and, Bool.false_and, Bool.and_true, Bool.and_false, Bool.or_false, if_true, if_false, Bool.false_eq_true, Int.zero_le_ofNat] at h0 h1 h2 h3 h4 h5 h6 h7 h8 h9 h10 h11 h12 h13 h14 h15 h16 h17 h18 h19 h20 h21 h22 h23 h24 h25 h26 h27 h28 h29 h30 h31 h32 h33 h34 h35 h36 h37 h38 h39 h40 h41 h42 h43 h44 h45 h46 h47 h48 h49 h50 h51 h52 h53 c0
    subst h53 h52 h51 h50 h49 h48 h47 h46 h45 h44 h43 h42 h41 h40 h39 h38 h37 h36 h35 h34 h33 h32 h31 h30 h29 h28 h27 h26 h25 h24 h23 h22 h21 h20 h19 h18 h17 h16 h15 h14 h13 h12 h11 h10 h9 h8 h7 h6 h5 h4 h3 h2 h1 h0
    cases p21 <;> cases g1004_x13_ <;> (simp only [Bool.true_and, Bool.false_and, Bool.and_true, Bool.and_false, Bool.false_eq_true, if_false, if_true, Bool.not_true, Bool.not_false, Bool.not_eq_true', decide_eq_true_eq, decide_eq_false_iff_not, Bool.or_eq_true, Bool.and_eq_true, Bool.false_or, Bool.true_or, Bool.or_false, Bool.or_true, false_or, true_or, or_false, or_true, true_implies, forall_const, false_implies, Int.reduceEq, Int.reduceLE, Int.reduceLT, decide_true, decide_false, Bool.not_eq_false', Bool.true_eq_false, and_true, true_and, false_and, and_false, not_true, not_false_iff, ite_true, ite_false, Bool.if_false_left, imp_self] at * <;> (try omega) <;> (try simp only [Bool.and_eq_false_iff, Bool.or_eq_false_iff, decide_eq_false_iff_not, Bool.not_eq_true', decide_eq_true_eq] at *) <;> (try omega) <;> grind)
  · have z0 : p20 = false := by cases p20 with | false => rfl | true => exact absurd (i12 rfl) (by omega)
    have z1 : p21 = false := by cases p21 with | false => rfl | true => exact absurd (i13 rfl) (by omega)
    have ii := i17 rfl
    clear i12 i13 i14 i15 i16 i17
    subst z0; subst z1
    simp only [Int.reduceEq, decide_true, decide_false, Bool.not_true, Bool.not_false, Bool.true_or, Bool.false_or, Bool.true_and, Bool.false_and, Bool.and_true, Bool.and_false, Bool.or_false, if_true, if_false, Bool.false_eq_true, Int.zero_le_ofNat] at h0 h1 h2 h3 h4 h5 h6 h7 h8 h9 h10 h11 h12 h13 h14 h15 h16 h17 h18 h19 h20 h21 h22 h23 h24 h25 h26 h27 h28 h29 h30 h31 h32 h33 h34 h35 h36 h37 h38 h39 h40 h41 h42 h43 h44 h45 h46 h47 h48 h49 h50 h51 h52 h53 c0
    subst h53 h52 h51 h50 h49 h48 h47 h46 h45 h44 h43 h42 h41 h40 h39 h38 h37 h36 h35 h34 h33 h32 h31 h30 h29 h28 h27 h26 h25 h24 h23 h22 h21 h20 h19 h18 h17 h16 h15 h14 h13 h12 h11 h10 h9 h8 h7 h6 h5 h4 h3 h2 h1 h0
    cases p22 <;> cases g1004_x13_ <;> (simp only [Bool.true_and, Bool.false_and, Bool.and_true, Bool.and_false, Bool.false_eq_true, if_false, if_true, Bool.not_true, Bool.not_false, Bool.not_eq_true', decide_eq_true_eq, decide_eq_false_iff_not, Bool.or_eq_true, Bool.and_eq_true, Bool.false_or, Bool.true_or, Bool.or_false, Bool.or_true, false_or, true_or, or_false, or_true, true_implies, forall_const, false_implies, Int.reduceEq, Int.reduceLE, Int.reduceLT, decide_true, decide_false, Bool.not_eq_false', Bool.true_eq_false, and_true, true_and, false_and, and_false, not_true, not_false_iff, ite_true, ite_false, Bool.if_false_left, imp_self] at * <;> (try omega) <;> (try simp only [Bool.and_eq_false_iff, Bool.or_eq_false_iff, decide_eq_false_iff_not, Bool.not_eq_true', decide_eq_true_eq] at *) <;> (try omega) <;> grind)
  · have z0 : p20 = false := by cases p20 with | false => rfl | true => exact absurd (i12 rfl) (by omega)
    have z1 : p21 = false := by cases p21 with | false => rfl | true => exact absurd (i13 rfl) (by omega)
    have z2 : p22 = false := by cases p22 with | false => rfl | true => exact absurd (i14 rfl) (by omega)
    clear i12 i13 i14 i15 i16 i17
    subst z0; subst z1; subst z2
    simp only [Int.reduceEq, decide_true, decide_false, Bool.not_true, Bool.not_false, Bool.true_or, Bool.false_or, Bool.true_and, Bool.false_and, Bool.and_true, Bool.and_false, Bool.or_false, if_true, if_false, Bool.false_eq_true, Int.zero_le_ofNat] at h0 h1 h2 h3 h4 h5 h6 h7 h8 h9 h10 h11 h12 h13 h14 h15 h16 h17 h18 h19 h20 h21 h22 h23 h24 h25 h26 h27 h28 h29 h30 h31 h32 h33 h34 h35 h36 h37 h38 h39 h40 h41 h42 h43 h44 h45 h46 h47 h48 h49 h50 h51 h52 h53 c0
    subst h53 h52 h51 h50 h49 h48 h47 h46 h45 h44 h43 h42 h41 h40 h39 h38 h37 h36 h35 h34 h33 h32 h31 h30 h29 h28 h27 h26 h25 h24 h23 h22 h21 h20 h19 h18 h17 h16 h15 h14 h13 h12 h11 h10 h9 h8 h7 h6 h5 h4 h3 h2 h1 h0
    cases g1004_x13_ <;> (simp only [Bool.true_and, Bool.false_and, Bool.and_true, Bool.and_false, Bool.false_eq_true, if_false, if_true, Bool.not_true, Bool.not_false, Bool.not_eq_true', decide_eq_true_eq, decide_eq_false_iff_not, Bool.or_eq_true, Bool.and_eq_true, Bool.false_or, Bool.true_or, Bool.or_false, Bool.or_true, false_or, true_or, or_false, or_true, true_implies, forall_const, false_implies, Int.reduceEq, Int.reduceLE, Int.reduceLT, decide_true, decide_false, Bool.not_eq_false', Bool.true_eq_false, and_true, true_and, false_and, and_false, not_true, not_false_iff, ite_true, ite_false, Bool.if_false_left, imp_self] at * <;> (try omega) <;> (try simp only [Bool.and_eq_false_iff, Bool.or_eq_false_iff, decide_eq_false_iff_not, Bool.not_eq_true', decide_eq_true_eq] at *) <;> (try omega) <;> grind)

set_option maxHeartbeats 4000000 in
theorem tv_4 {f1000_x13_ f1001_x13_ f1002_x13_ f1003_x13_ f1005_x13_ x0 x1 x12 x13 x20 x21 x22 x23 x4 x5 x6 y0 y1 y15 y17 y19 y2 y24 y26 y28 y3 y30 y32 y34 y36 y38 y4 y40 y42 y43 y44 y45 y46 y5 y51 y52 : Int} {g1004_x13_ p20 p21 p22 q10 q11 q12 q13 q14 q16 q18 q20 q21 q22 q23 q25 q27 q29 q31 q33 q35 q37 q39 q41 q47 q48 q49 q50 q53 q6 q7 q8 q9 : Bool}
  (h0 : y0 = ((min (max f1000_x13_ (-900000 : Int)) (900000 : Int)) + (min (max f1001_x13_ ((0 : Int) - x6)) x6)))
  (h1 : y1 = (if (decide ((0 : Int) = x5)) = true then (min (max f1005_x13_ (-1000000 : Int)) (1000000 : Int)) else y0))
  (h2 : y2 = ((min (max f1000_x13_ (-900000 : Int)) (900000 : Int)) + (min (max f1002_x13_ ((0 : Int) - x6)) x6)))
  (h3 : y3 = (if (decide ((1 : Int) = x5)) = true then (min (max f1005_x13_ (-1000000 : Int)) (1000000 : Int)) else y2))
  (h4 : y4 = ((min (max f1000_x13_ (-900000 : Int)) (900000 : Int)) + (min (max f1003_x13_ ((0 : Int) - x6)) x6)))
  (h5 : y5 = (if (decide ((2 : Int) = x5)) = true then (min (max f1005_x13_ (-1000000 : Int)) (1000000 : Int)) else y4))
  (h6 : q6 = ((((!(decide ((0 : Int) = x5))) || g1004_x13_) && (decide ((y1 - (max (min y1 y3) (min (max y1 y3) y5))) ≤ x0))) && (decide (((max (min y1 y3) (min (max y1 y3) y5)) - y1) ≤ x0))))
  (h7 : q7 = ((((!(decide ((1 : Int) = x5))) || g1004_x13_) && (decide ((y3 - (max (min y1 y3) (min (max y1 y3) y5))) ≤ x0))) && (decide (((max (min y1 y3) (min (max y1 y3) y5)) - y3) ≤ x0))))
  (h8 : q8 = ((((!(decide ((2 : Int) = x5))) || g1004_x13_) && (decide ((y5 - (max (min y1 y3) (min (max y1 y3) y5))) ≤ x0))) && (decide (((max (min y1 y3) (min (max y1 y3) y5)) - y5) ≤ x0))))
  (h9 : q9 = ((((!(decide ((0 : Int) = x5))) || g1004_x13_) && (decide ((y1 - ((y1 + y3) / (2 : Int))) ≤ x0))) && (decide ((((y1 + y3) / (2 : Int)) - y1) ≤ x0))))
  (h10 : q10 = ((((!(decide ((1 : Int) = x5))) || g1004_x13_) && (decide ((y3 - ((y1 + y3) / (2 : Int))) ≤ x0))) && (decide ((((y1 + y3) / (2 : Int)) - y3) ≤ x0))))
  (h11 : q11 = ((((!(decide ((2 : Int) = x5))) || g1004_x13_) && (decide ((y5 - ((y1 + y3) / (2 : Int))) ≤ x0))) && (decide ((((y1 + y3) / (2 : Int)) - y5) ≤ x0))))
  (h12 : q12 = ((((!(decide ((0 : Int) = x5))) || g1004_x13_) && (decide ((y1 - ((y1 + y5) / (2 : Int))) ≤ x0))) && (decide ((((y1 + y5) / (2 : Int)) - y1) ≤ x0))))
  (h13 : q13 = ((((!(decide ((1 : Int) = x5))) || g1004_x13_) && (decide ((y3 - ((y1 + y5) / (2 : Int))) ≤ x0))) && (decide ((((y1 + y5) / (2 : Int)) - y3) ≤ x0))))
  (h14 : q14 = ((((!(decide ((2 : Int) = x5))) || g1004_x13_) && (decide ((y5 - ((y1 + y5) / (2 : Int))) ≤ x0))) && (decide ((((y1 + y5) / (2 : Int)) - y5) ≤ x0))))
  (h15 : y15 = (if p20 = true then x20 else (if ((((!(decide ((0 : Int) = x5))) || g1004_x13_) && (decide ((0 : Int) ≤ x0))) && (decide ((0 : Int) ≤ x0))) = true then (0 : Int) else (min (x20 + (1 : Int)) (10 : Int)))))
  (h16 : q16 = (p20 || ((!((((!(decide ((0 : Int) = x5))) || g1004_x13_) && (decide ((0 : Int) ≤ x0))) && (decide ((0 : Int) ≤ x0)))) && (decide (x1 ≤ (min (x20 + (1 : Int)) (10 : Int)))))))
  (h17 : y17 = (if p21 = true then x21 else (if ((((!(decide ((1 : Int) = x5))) || g1004_x13_) && (decide ((y3 - y1) ≤ x0))) && (decide ((y1 - y3) ≤ x0))) = true then (0 : Int) else (min (x21 + (1 : Int)) (10 : Int)))))
  (h18 : q18 = (p21 || ((!((((!(decide ((1 : Int) = x5))) || g1004_x13_) && (decide ((y3 - y1) ≤ x0))) && (decide ((y1 - y3) ≤ x0)))) && (decide (x1 ≤ (min (x21 + (1 : Int)) (10 : Int)))))))
  (h19 : y19 = (if p22 = true then x22 else (if ((((!(decide ((2 : Int) = x5))) || g1004_x13_) && (decide ((y5 - y1) ≤ x0))) && (decide ((y1 - y5) ≤ x0))) = true then (0 : Int) else (min (x22 + (1 : Int)) (10 : Int)))))
  (h20 : q20 = (p22 || ((!((((!(decide ((2 : Int) = x5))) || g1004_x13_) && (decide ((y5 - y1) ≤ x0))) && (decide ((y1 - y5) ≤ x0)))) && (decide (x1 ≤ (min (x22 + (1 : Int)) (10 : Int)))))))
  (h21 : q21 = ((((!(decide ((0 : Int) = x5))) || g1004_x13_) && (decide ((y1 - ((y3 + y5) / (2 : Int))) ≤ x0))) && (decide ((((y3 + y5) / (2 : Int)) - y1) ≤ x0))))
  (h22 : q22 = ((((!(decide ((1 : Int) = x5))) || g1004_x13_) && (decide ((y3 - ((y3 + y5) / (2 : Int))) ≤ x0))) && (decide ((((y3 + y5) / (2 : Int)) - y3) ≤ x0))))
  (h23 : q23 = ((((!(decide ((2 : Int) = x5))) || g1004_x13_) && (decide ((y5 - ((y3 + y5) / (2 : Int))) ≤ x0))) && (decide ((((y3 + y5) / (2 : Int)) - y5) ≤ x0))))
  (h24 : y24 = (if p20 = true then x20 else (if ((((!(decide ((0 : Int) = x5))) || g1004_x13_) && (decide ((y1 - y3) ≤ x0))) && (decide ((y3 - y1) ≤ x0))) = true then (0 : Int) else (min (x20 + (1 : Int)) (10 : Int)))))
  (h25 : q25 = (p20 || ((!((((!(decide ((0 : Int) = x5))) || g1004_x13_) && (decide ((y1 - y3) ≤ x0))) && (decide ((y3 - y1) ≤ x0)))) && (decide (x1 ≤ (min (x20 + (1 : Int)) (10 : Int)))))))
  (h26 : y26 = (if p21 = true then x21 else (if ((((!(decide ((1 : Int) = x5))) || g1004_x13_) && (decide ((0 : Int) ≤ x0))) && (decide ((0 : Int) ≤ x0))) = true then (0 : Int) else (min (x21 + (1 : Int)) (10 : Int)))))
  (h27 : q27 = (p21 || ((!((((!(decide ((1 : Int) = x5))) || g1004_x13_) && (decide ((0 : Int) ≤ x0))) && (decide ((0 : Int) ≤ x0)))) && (decide (x1 ≤ (min (x21 + (1 : Int)) (10 : Int)))))))
  (h28 : y28 = (if p22 = true then x22 else (if ((((!(decide ((2 : Int) = x5))) || g1004_x13_) && (decide ((y5 - y3) ≤ x0))) && (decide ((y3 - y5) ≤ x0))) = true then (0 : Int) else (min (x22 + (1 : Int)) (10 : Int)))))
  (h29 : q29 = (p22 || ((!((((!(decide ((2 : Int) = x5))) || g1004_x13_) && (decide ((y5 - y3) ≤ x0))) && (decide ((y3 - y5) ≤ x0)))) && (decide (x1 ≤ (min (x22 + (1 : Int)) (10 : Int)))))))
  (h30 : y30 = (if p20 = true then x20 else (if ((((!(decide ((0 : Int) = x5))) || g1004_x13_) && (decide ((y1 - y5) ≤ x0))) && (decide ((y5 - y1) ≤ x0))) = true then (0 : Int) else (min (x20 + (1 : Int)) (10 : Int)))))
  (h31 : q31 = (p20 || ((!((((!(decide ((0 : Int) = x5))) || g1004_x13_) && (decide ((y1 - y5) ≤ x0))) && (decide ((y5 - y1) ≤ x0)))) && (decide (x1 ≤ (min (x20 + (1 : Int)) (10 : Int)))))))
  (h32 : y32 = (if p21 = true then x21 else (if ((((!(decide ((1 : Int) = x5))) || g1004_x13_) && (decide ((y3 - y5) ≤ x0))) && (decide ((y5 - y3) ≤ x0))) = true then (0 : Int) else (min (x21 + (1 : Int)) (10 : Int)))))
  (h33 : q33 = (p21 || ((!((((!(decide ((1 : Int) = x5))) || g1004_x13_) && (decide ((y3 - y5) ≤ x0))) && (decide ((y5 - y3) ≤ x0)))) && (decide (x1 ≤ (min (x21 + (1 : Int)) (10 : Int)))))))
  (h34 : y34 = (if p22 = true then x22 else (if ((((!(decide ((2 : Int) = x5))) || g1004_x13_) && (decide ((0 : Int) ≤ x0))) && (decide ((0 : Int) ≤ x0))) = true then (0 : Int) else (min (x22 + (1 : Int)) (10 : Int)))))
  (h35 : q35 = (p22 || ((!((((!(decide ((2 : Int) = x5))) || g1004_x13_) && (decide ((0 : Int) ≤ x0))) && (decide ((0 : Int) ≤ x0)))) && (decide (x1 ≤ (min (x22 + (1 : Int)) (10 : Int)))))))
  (h36 : y36 = (if p20 = true then x20 else (if ((((!(decide ((0 : Int) = x5))) || g1004_x13_) && (decide ((y1 - x23) ≤ x0))) && (decide ((x23 - y1) ≤ x0))) = true then (0 : Int) else (min (x20 + (1 : Int)) (10 : Int)))))
  (h37 : q37 = (p20 || ((!((((!(decide ((0 : Int) = x5))) || g1004_x13_) && (decide ((y1 - x23) ≤ x0))) && (decide ((x23 - y1) ≤ x0)))) && (decide (x1 ≤ (min (x20 + (1 : Int)) (10 : Int)))))))
  (h38 : y38 = (if p21 = true then x21 else (if ((((!(decide ((1 : Int) = x5))) || g1004_x13_) && (decide ((y3 - x23) ≤ x0))) && (decide ((x23 - y3) ≤ x0))) = true then (0 : Int) else (min (x21 + (1 : Int)) (10 : Int)))))
  (h39 : q39 = (p21 || ((!((((!(decide ((1 : Int) = x5))) || g1004_x13_) && (decide ((y3 - x23) ≤ x0))) && (decide ((x23 - y3) ≤ x0)))) && (decide (x1 ≤ (min (x21 + (1 : Int)) (10 : Int)))))))
  (h40 : y40 = (if p22 = true then x22 else (if ((((!(decide ((2 : Int) = x5))) || g1004_x13_) && (decide ((y5 - x23) ≤ x0))) && (decide ((x23 - y5) ≤ x0))) = true then (0 : Int) else (min (x22 + (1 : Int)) (10 : Int)))))
  (h41 : q41 = (p22 || ((!((((!(decide ((2 : Int) = x5))) || g1004_x13_) && (decide ((y5 - x23) ≤ x0))) && (decide ((x23 - y5) ≤ x0)))) && (decide (x1 ≤ (min (x22 + (1 : Int)) (10 : Int)))))))
  (h42 : y42 = (if (((!(decide ((0 : Int) = x5))) || g1004_x13_) && (!p20)) = true then (if (((!(decide ((1 : Int) = x5))) || g1004_x13_) && (!p21)) = true then (if (((!(decide ((2 : Int) = x5))) || g1004_x13_) && (!p22)) = true then (max (min y1 y3) (min (max y1 y3) y5)) else ((y1 + y3) / (2 : Int))) else (if (((!(decide ((2 : Int) = x5))) || g1004_x13_) && (!p22)) = true then ((y1 + y5) / (2 : Int)) else y1)) else (if (((!(decide ((1 : Int) = x5))) || g1004_x13_) && (!p21)) = true then (if (((!(decide ((2 : Int) = x5))) || g1004_x13_) && (!p22)) = true then ((y3 + y5) / (2 : Int)) else y3) else (if (((!(decide ((2 : Int) = x5))) || g1004_x13_) && (!p22)) = true then y5 else x23))))
  (h43 : y43 = (if (((!(decide ((0 : Int) = x5))) || g1004_x13_) && (!p20)) = true then (if (((!(decide ((1 : Int) = x5))) || g1004_x13_) && (!p21)) = true then (if (((!(decide ((2 : Int) = x5))) || g1004_x13_) && (!p22)) = true then (3 : Int) else (2 : Int)) else (if (((!(decide ((2 : Int) = x5))) || g1004_x13_) && (!p22)) = true then (2 : Int) else (1 : Int))) else (if (((!(decide ((1 : Int) = x5))) || g1004_x13_) && (!p21)) = true then (if (((!(decide ((2 : Int) = x5))) || g1004_x13_) && (!p22)) = true then (2 : Int) else (1 : Int)) else (if (((!(decide ((2 : Int) = x5))) || g1004_x13_) && (!p22)) = true then (1 : Int) else (0 : Int)))))
  (h44 : y44 = (if (((!(decide ((0 : Int) = x5))) || g1004_x13_) && (!p20)) = true then (if (((!(decide ((1 : Int) = x5))) || g1004_x13_) && (!p21)) = true then (if (((!(decide ((2 : Int) = x5))) || g1004_x13_) && (!p22)) = true then (if p20 = true then x20 else (if q6 = true then (0 : Int) else (min (x20 + (1 : Int)) (10 : Int)))) else (if p20 = true then x20 else (if q9 = true then (0 : Int) else (min (x20 + (1 : Int)) (10 : Int))))) else (if (((!(decide ((2 : Int) = x5))) || g1004_x13_) && (!p22)) = true then (if p20 = true then x20 else (if q12 = true then (0 : Int) else (min (x20 + (1 : Int)) (10 : Int)))) else y15)) else (if (((!(decide ((1 : Int) = x5))) || g1004_x13_) && (!p21)) = true then (if (((!(decide ((2 : Int) = x5))) || g1004_x13_) && (!p22)) = true then (if p20 = true then x20 else (if q21 = true then (0 : Int) else (min (x20 + (1 : Int)) (10 : Int)))) else y24) else (if (((!(decide ((2 : Int) = x5))) || g1004_x13_) && (!p22)) = true then y30 else y36))))
  (h45 : y45 = (if (((!(decide ((0 : Int) = x5))) || g1004_x13_) && (!p20)) = true then (if (((!(decide ((1 : Int) = x5))) || g1004_x13_) && (!p21)) = true then (if (((!(decide ((2 : Int) = x5))) || g1004_x13_) && (!p22)) = true then (if p21 = true then x21 else (if q7 = true then (0 : Int) else (min (x21 + (1 : Int)) (10 : Int)))) else (if p21 = true then x21 else (if q10 = true then (0 : Int) else (min (x21 + (1 : Int)) (10 : Int))))) else (if (((!(decide ((2 : Int) = x5))) || g1004_x13_) && (!p22)) = true then (if p21 = true then x21 else (if q13 = true then (0 : Int) else (min (x21 + (1 : Int)) (10 : Int)))) else y17)) else (if (((!(decide ((1 : Int) = x5))) || g1004_x13_) && (!p21)) = true then (if (((!(decide ((2 : Int) = x5))) || g1004_x13_) && (!p22)) = true then (if p21 = true then x21 else (if q22 = true then (0 : Int) else (min (x21 + (1 : Int)) (10 : Int)))) else y26) else (if (((!(decide ((2 : Int) = x5))) || g1004_x13_) && (!p22)) = true then y32 else y38))))
  (h46 : y46 = (if (((!(decide ((0 : Int) = x5))) || g1004_x13_) && (!p20)) = true then (if (((!(decide ((1 : Int) = x5))) || g1004_x13_) && (!p21)) = true then (if (((!(decide ((2 : Int) = x5))) || g1004_x13_) && (!p22)) = true then (if p22 = true then x22 else (if q8 = true then (0 : Int) else (min (x22 + (1 : Int)) (10 : Int)))) else (if p22 = true then x22 else (if q11 = true then (0 : Int) else (min (x22 + (1 : Int)) (10 : Int))))) else (if (((!(decide ((2 : Int) = x5))) || g1004_x13_) && (!p22)) = true then (if p22 = true then x22 else (if q14 = true then (0 : Int) else (min (x22 + (1 : Int)) (10 : Int)))) else y19)) else (if (((!(decide ((1 : Int) = x5))) || g1004_x13_) && (!p21)) = true then (if (((!(decide ((2 : Int) = x5))) || g1004_x13_) && (!p22)) = true then (if p22 = true then x22 else (if q23 = true then (0 : Int) else (min (x22 + (1 : Int)) (10 : Int)))) else y28) else (if (((!(decide ((2 : Int) = x5))) || g1004_x13_) && (!p22)) = true then y34 else y40))))
  (h47 : q47 = (if (((!(decide ((0 : Int) = x5))) || g1004_x13_) && (!p20)) = true then (if (((!(decide ((1 : Int) = x5))) || g1004_x13_) && (!p21)) = true then (if (((!(decide ((2 : Int) = x5))) || g1004_x13_) && (!p22)) = true then (p20 || ((!q6) && (decide (x1 ≤ (min (x20 + (1 : Int)) (10 : Int)))))) else (p20 || ((!q9) && (decide (x1 ≤ (min (x20 + (1 : Int)) (10 : Int))))))) else (if (((!(decide ((2 : Int) = x5))) || g1004_x13_) && (!p22)) = true then (p20 || ((!q12) && (decide (x1 ≤ (min (x20 + (1 : Int)) (10 : Int)))))) else q16)) else (if (((!(decide ((1 : Int) = x5))) || g1004_x13_) && (!p21)) = true then (if (((!(decide ((2 : Int) = x5))) || g1004_x13_) && (!p22)) = true then (p20 || ((!q21) && (decide (x1 ≤ (min (x20 + (1 : Int)) (10 : Int)))))) else q25) else (if (((!(decide ((2 : Int) = x5))) || g1004_x13_) && (!p22)) = true then q31 else q37))))
  (h48 : q48 = (if (((!(decide ((0 : Int) = x5))) || g1004_x13_) && (!p20)) = true then (if (((!(decide ((1 : Int) = x5))) || g1004_x13_) && (!p21)) = true then (if (((!(decide ((2 : Int) = x5))) || g1004_x13_) && (!p22)) = true then (p21 || ((!q7) && (decide (x1 ≤ (min (x21 + (1 : Int)) (10 : Int)))))) else (p21 || ((!q10) && (decide (x1 ≤ (min (x21 + (1 : Int)) (10 : Int))))))) else (if (((!(decide ((2 : Int) = x5))) || g1004_x13_) && (!p22)) = true then (p21 || ((!q13) && (decide (x1 ≤ (min (x21 + (1 : Int)) (10 : Int)))))) else q18)) else (if (((!(decide ((1 : Int) = x5))) || g1004_x13_) && (!p21)) = true then (if (((!(decide ((2 : Int) = x5))) || g1004_x13_) && (!p22)) = true then (p21 || ((!q22) && (decide (x1 ≤ (min (x21 + (1 : Int)) (10 : Int)))))) else q27) else (if (((!(decide ((2 : Int) = x5))) || g1004_x13_) && (!p22)) = true then q33 else q39))))
  (h49 : q49 = (if (((!(decide ((0 : Int) = x5))) || g1004_x13_) && (!p20)) = true then (if (((!(decide ((1 : Int) = x5))) || g1004_x13_) && (!p21)) = true then (if (((!(decide ((2 : Int) = x5))) || g1004_x13_) && (!p22)) = true then (p22 || ((!q8) && (decide (x1 ≤ (min (x22 + (1 : Int)) (10 : Int)))))) else (p22 || ((!q11) && (decide (x1 ≤ (min (x22 + (1 : Int)) (10 : Int))))))) else (if (((!(decide ((2 : Int) = x5))) || g1004_x13_) && (!p22)) = true then (p22 || ((!q14) && (decide (x1 ≤ (min (x22 + (1 : Int)) (10 : Int)))))) else q20)) else (if (((!(decide ((1 : Int) = x5))) || g1004_x13_) && (!p21)) = true then (if (((!(decide ((2 : Int) = x5))) || g1004_x13_) && (!p22)) = true then (p22 || ((!q23) && (decide (x1 ≤ (min (x22 + (1 : Int)) (10 : Int)))))) else q29) else (if (((!(decide ((2 : Int) = x5))) || g1004_x13_) && (!p22)) = true then q35 else q41))))
  (h50 : q50 = ((decide (((min (max f1000_x13_ (-900000 : Int)) (900000 : Int)) - x6) ≤ y42)) && (decide (y42 ≤ ((min (max f1000_x13_ (-900000 : Int)) (900000 : Int)) + x6)))))
  (h51 : y51 = (((min (max f1000_x13_ (-900000 : Int)) (900000 : Int)) - x0) - x6))
  (h52 : y52 = (((min (max f1000_x13_ (-900000 : Int)) (900000 : Int)) + x0) + x6))
  (h53 : q53 = (g1004_x13_ && ((decide (y51 ≤ (min (max f1005_x13_ (-1000000 : Int)) (1000000 : Int)))) && (decide ((min (max f1005_x13_ (-1000000 : Int)) (1000000 : Int)) ≤ y52)))))
  (c0 : (!(((!(decide ((2 : Int) = x5))) && q49) || (((decide ((2 : Int) = x5)) && (decide (x1 ≤ (if q53 = true then (0 : Int) else (x12 + (1 : Int)))))) && (!q49)))) = true)
  (c1 : (!(((!(decide ((1 : Int) = x5))) && q48) || (((decide ((1 : Int) = x5)) && (decide (x1 ≤ (if q53 = true then (0 : Int) else (x12 + (1 : Int)))))) && (!q48)))) = true)
  (c2 : (!(((!(decide ((0 : Int) = x5))) && q47) || (((decide ((0 : Int) = x5)) && (decide (x1 ≤ (if q53 = true then (0 : Int) else (x12 + (1 : Int)))))) && (!q47)))) = true)
  (c3 : q50 = true)
  (c4 : (decide (x13 < x4)) = true)
  (i0 : 0 ≤ x0 ∧ x0 ≤ 1000000)
  (i1 : 1 ≤ x1 ∧ x1 ≤ 10)
  (i2 : 0 ≤ x4 ∧ x4 ≤ 100)
  (i3 : 0 ≤ x5 ∧ x5 ≤ 3)
  (i4 : 0 ≤ x6 ∧ x6 ≤ 1000)
  (i5 : 2 * x6 ≤ x0)
  (i6 : 0 ≤ x12 ∧ x12 ≤ x13)
  (i7 : 0 ≤ x13 ∧ x13 ≤ 100)
  (i8 : 0 ≤ x20 ∧ x20 ≤ 10)
  (i9 : 0 ≤ x21 ∧ x21 ≤ 10)
  (i10 : 0 ≤ x22 ∧ x22 ≤ 10)
  (i11 : -1000000 ≤ x23 ∧ x23 ≤ 1000000)
  (i12 : p20 = true → x5 = 0)
  (i13 : p21 = true → x5 = 1)
  (i14 : p22 = true → x5 = 2)
  (i15 : x5 = 0 → p20 = false → x12 ≤ x20 ∧ x20 < x1)
  (i16 : x5 = 1 → p21 = false → x12 ≤ x21 ∧ x21 < x1)
  (i17 : x5 = 2 → p22 = false → x12 ≤ x22 ∧ x22 < x1)
  : (0 ≤ ((if q53 = true then (0 : Int) else (x12 + (1 : Int)))) ∧ ((if q53 = true then (0 : Int) else (x12 + (1 : Int)))) ≤ ((x13 + (1 : Int)))) ∧ (0 ≤ ((x13 + (1 : Int))) ∧ ((x13 + (1 : Int))) ≤ 100) ∧ (0 ≤ (y44) ∧ (y44) ≤ 10) ∧ (0 ≤ (y45) ∧ (y45) ≤ 10) ∧ (0 ≤ (y46) ∧ (y46) ≤ 10) ∧ (-1000000 ≤ (y42) ∧ (y42) ≤ 1000000) ∧ ((q47) = true → x5 = 0) ∧ ((q48) = true → x5 = 1) ∧ ((q49) = true → x5 = 2) ∧ (x5 = 0 → (q47) = false → ((if q53 = true then (0 : Int) else (x12 + (1 : Int)))) ≤ (y44) ∧ (y44) < x1) ∧ (x5 = 1 → (q48) = false → ((if q53 = true then (0 : Int) else (x12 + (1 : Int)))) ≤ (y45) ∧ (y45) < x1) ∧ (x5 = 2 → (q49) = false → ((if q53 = true then (0 : Int) else (x12 + (1 : Int)))) ≤ (y46) ∧ (y46) < x1) := by
  have k5 : x5 = 0 ∨ x5 = 1 ∨ x5 = 2 ∨ x5 = 3 := by omega
  obtain ⟨a0, a1⟩ := i0; obtain ⟨a2, a3⟩ := i1; obtain ⟨a4, a5⟩ := i4; obtain ⟨a6, a7⟩ := i6; obtain ⟨a8, a9⟩ := i7; obtain ⟨b0, b1⟩ := i8; obtain ⟨b2, b3⟩ := i9; obtain ⟨b4, b5⟩ := i10; obtain ⟨b6, b7⟩ := i11
  generalize ht : min (max f1000_x13_ (-900000)) 900000 = t at *
  have t1 : -900000 ≤ t := by omega
  have t2 : t ≤ 900000 := by omega
  clear ht
  generalize hl : min (max f1005_x13_ (-1000000)) 1000000 = l at *
  have l1 : -1000000 ≤ l := by omega
  have l2 : l ≤ 1000000 := by omega
  clear hl
  generalize hy0 : min (max f1001_x13_ (0 - x6)) x6 = d0 at *
  have d01 : -x6 ≤ d0 := by omega
  have d02 : d0 ≤ x6 := by omega
  clear hy0
  generalize hy1 : min (max f1002_x13_ (0 - x6)) x6 = d1 at *
  have d11 : -x6 ≤ d1 := by omega
  have d12 : d1 ≤ x6 := by omega
  clear hy1
  generalize hy2 : min (max f1003_x13_ (0 - x6)) x6 = d2 at *
  have d21 : -x6 ≤ d2 := by omega
  have d22 : d2 ≤ x6 := by omega
  clear hy2
  rcases k5 with k5 | k5 | k5 | k5 <;> subst k5
  · have z1 : p21 = false := by cases p21 with | false => rfl | true => exact absurd (i13 rfl) (by omega)
    have z2 : p22 = false := by cases p22 with | false => rfl | true => exact absurd (i14 rfl) (by omega)
    have ii := i15 rfl
    clear i12 i13 i14 i15 i16 i17
    subst z1; subst z2
    simp only [Int.reduceEq, decide_true, decide_false, Bool.not_true, Bool.not_false, Bool.true_or, Bool.false_or, Bool.true_and, Bool.false_and, Bool.and_true, Bool.and_false, Bool.or_false, if_true, if_false, Bool.false_eq_true, Int.zero_le_ofNat] at h0 h1 h2 h3 h4 h5 h6 h7 h8 h9 h10 h11 h12 h13 h14 h15 h16 h17 h18 h19 h20 h21 h22 h23 h24 h25 h26 h27 h28 h29 h30 h31 h32 h33 h34 h35 h36 h37 h38 h39 h40 h41 h42 h43 h44 h45 h46 h47 h48 h49 h50 h51 h52 h53 c0
    subst h53 h52 h51 h50 h49 h48 h47 h46 h45 h44 h43 h42 h41 h40 h39 h38 h37 h36 h35 h34 h33 h32 h31 h30 h29 h28 h27 h26 h25 h24 h23 h22 h21 h20 h19 h18 h17 h16 h15 h14 h13 h12 h11 h10 h9 h8 h7 h6 h5 h4 h3 h2 h1 h0
    cases p20 <;> cases g1004_x13_ <;> (simp only [Bool.true_and, Bool.false_and, Bool.and_true, Bool.and_false, Bool.false_eq_true, if_false, if_true, Bool.not_true, Bool.not_false, Bool.not_eq_true', decide_eq_true_eq, decide_eq_false_iff_not, Bool.or_eq_true, Bool.and_eq_true, Bool.false_or, Bool.true_or, Bool.or_false, Bool.or_true, false_or, true_or, or_false, or_true, true_implies, forall_const, false_implies, Int.reduceEq, Int.reduceLE, Int.reduceLT, decide_true, decide_false, Bool.not_eq_false', Bool.true_eq_false, and_true, true_and, false_and, and_false, not_true, not_false_iff, ite_true, ite_false, Bool.if_false_left, imp_self] at * <;> (repeat' (first | apply And.intro)) <;> (try omega) <;> (try simp only [Bool.and_eq_false_iff, Bool.or_eq_false_iff, decide_eq_false_iff_not, Bool.not_eq_true', decide_eq_true_eq] at *) <;> (try omega) <;> (try (intros; omega)) <;> grind)
  · have z0 : p20 = false := by cases p20 with | false => rfl | true => exact absurd (i12 rfl) (by omega)
    have z2 : p22 = false := by cases p22 with | false => rfl | true => exact absurd (i14 rfl) (by omega)
    have ii := i16 rfl
    clear i12 i13 i14 i15 i16 i17
    subst z0; subst z2
    simp only [Int.reduceEq, decide_true, decide_false, Bool.not_true, Bool.not_false, Bool.true_or, Bool.false_or, Bool.true_and, Bool.false_and, Bool.and_true, Bool.and_false, Bool.or_false, if_true, if_false, Bool.false_eq_true, Int.zero_le_ofNat] at h0 h1 h2 h3 h4 h5 h6 h7 h8 h9 h10 h11 h12 h13 h14 h15 h16 h17 h18 h19 h20 h21 h22 h23 h24 h25 h26 h27 h28 h29 h30 h31 h32 h33 h34 h35 h36 h37 h38 h39 h40 h41 h42 h43 h44 h45 h46 h47 h48 h49 h50 h51 h52 h53 c0
    subst h53 h52 h51 h50 h49 h48 h47 h46 h45 h44 h43 h42 h41 h40 h39 h38 h37 h36 h35 h34 h33 h32 h31 h30 h29 h28 h27 h26 h25 h24 h23 h22 h21 h20 h19 h18 h17 h16 h15 h14 h13 h12 h11 h10 h9 h8 h7 h6 h5 h4 h3 h2 h1 h0
    cases p21 <;> cases g1004_x13_ <;> (simp only [Bool.true_and, Bool.false_and, Bool.and_true, Bool.and_false, Bool.false_eq_true, if_false, if_true, Bool.not_true, Bool.not_false, Bool.not_eq_true', decide_eq_true_eq, decide_eq_false_iff_not, Bool.or_eq_true, Bool.and_eq_true, Bool.false_or, Bool.true_or, Bool.or_false, Bool.or_true, false_or, true_or, or_false, or_true, true_implies, forall_const, false_implies, Int.reduceEq, Int.reduceLE, Int.reduceLT, decide_true, decide_false, Bool.not_eq_false', Bool.true_eq_false, and_true, true_and, false_and, and_false, not_true, not_false_iff, ite_true, ite_false, Bool.if_false_left, imp_self] at * <;> (repeat' (first | apply And.intro)) <;> (try omega) <;> (try simp only [Bool.and_eq_false_iff, Bool.or_eq_false_iff, decide_eq_false_iff_not, Bool.not_eq_true', decide_eq_true_eq] at *) <;> (try omega) <;> (try (intros; omega)) <;> grind)
  · have z0 : p20 = false := by cases p20 with | false => rfl | true => exact absurd (i12 rfl) (by omega)
    have z1 : p21 = false := by cases p21 with | false => rfl | true => exact absurd (i13 rfl) (by omega)
    have ii := i17 rfl
    clear i12 i13 i14 i15 i16 i17
    subst z0; subst z1
    simp only [Int.reduceEq, decide_true, decide_false, Bool.not_true, Bool.not_false, Bool.true_or, Bool.false_or, Bool.true_and, Bool.false_and, Bool.and_true, Bool.and_false, Bool.or_false, if_true, if_false, Bool.false_eq_true, Int.zero_le_ofNat] at h0 h1 h2 h3 h4 h5 h6 h7 h8 h9 h10 h11 h12 h13 h14 h15 h16 h17 h18 h19 h20 h21 h22 h23 h24 h25 h26 h27 h28 h29 h30 h31 h32 h33 h34 h35 h36 h37 h38 h39 h40 h41 h42 h43 h44 h45 h46 h47 h48 h49 h50 h51 h52 h53 c0
    subst h53 h52 h51 h50 h49 h48 h47 h46 h45 h44 h43 h42 h41 h40 h39 h38 h37 h36 h35 h34 h33 h32 h31 h30 h29 h28 h27 h26 h25 h24 h23 h22 h21 h20 h19 h18 h17 h16 h15 h14 h13 h12 h11 h10 h9 h8 h7 h6 h5 h4 h3 h2 h1 h0
    cases p22 <;> cases g1004_x13_ <;> (simp only [Bool.true_and, Bool.false_and, Bool.and_true, Bool.and_false, Bool.false_eq_true, if_false, if_true, Bool.not_true, Bool.not_false, Bool.not_eq_true', decide_eq_true_eq, decide_eq_false_iff_not, Bool.or_eq_true, Bool.and_eq_true, Bool.false_or, Bool.true_or, Bool.or_false, Bool.or_true, false_or, true_or, or_false, or_true, true_implies, forall_const, false_implies, Int.reduceEq, Int.reduceLE, Int.reduceLT, decide_true, decide_false, Bool.not_eq_false', Bool.true_eq_false, and_true, true_and, false_and, and_false, not_true, not_false_iff, ite_true, ite_false, Bool.if_false_left, imp_self] at * <;> (repeat' (first | apply And.intro)) <;> (try omega) <;> (try simp only [Bool.and_eq_false_iff, Bool.or_eq_false_iff, decide_eq_false_iff_not, Bool.not_eq_true', decide_eq_true_eq] at *) <;> (try omega) <;> (try (intros; omega)) <;> grind)
  · have z0 : p20 = false := by cases p20 with | false => rfl | true => exact absurd (i12 rfl) (by omega)
    have z1 : p21 = false := by cases p21 with | false => rfl | true => exact absurd (i13 rfl) (by omega)
    have z2 : p22 = false := by cases p22 with | false => rfl | true => exact absurd (i14 rfl) (by omega)
    clear i12 i13 i14 i15 i16 i17
    subst z0; subst z1; subst z2
    simp only [Int.reduceEq, decide_true, decide_false, Bool.not_true, Bool.not_false, Bool.true_or, Bool.false_or, Bool.true_and, Bool.false_and, Bool.and_true, Bool.and_false, Bool.or_false, if_true, if_false, Bool.false_eq_true, Int.zero_le_ofNat] at h0 h1 h2 h3 h4 h5 h6 h7 h8 h9 h10 h11 h12 h13 h14 h15 h16 h17 h18 h19 h20 h21 h22 h23 h24 h25 h26 h27 h28 h29 h30 h31 h32 h33 h34 h35 h36 h37 h38 h39 h40 h41 h42 h43 h44 h45 h46 h47 h48 h49 h50 h51 h52 h53 c0
    subst h53 h52 h51 h50 h49 h48 h47 h46 h45 h44 h43 h42 h41 h40 h39 h38 h37 h36 h35 h34 h33 h32 h31 h30 h29 h28 h27 h26 h25 h24 h23 h22 h21 h20 h19 h18 h17 h16 h15 h14 h13 h12 h11 h10 h9 h8 h7 h6 h5 h4 h3 h2 h1 h0
    cases g1004_x13_ <;> (simp only [Bool.true_and, Bool.false_and, Bool.and_true, Bool.and_false, Bool.false_eq_true, if_false, if_true, Bool.not_true, Bool.not_false, Bool.not_eq_true', decide_eq_true_eq, decide_eq_false_iff_not, Bool.or_eq_true, Bool.and_eq_true, Bool.false_or, Bool.true_or, Bool.or_false, Bool.or_true, false_or, true_or, or_false, or_true, true_implies, forall_const, false_implies, Int.reduceEq, Int.reduceLE, Int.reduceLT, decide_true, decide_false, Bool.not_eq_false', Bool.true_eq_false, and_true, true_and, false_and, and_false, not_true, not_false_iff, ite_true, ite_false, Bool.if_false_left, imp_self] at * <;> (repeat' (first | apply And.intro)) <;> (try omega) <;> (try simp only [Bool.and_eq_false_iff, Bool.or_eq_false_iff, decide_eq_false_iff_not, Bool.not_eq_true', decide_eq_true_eq] at *) <;> (try omega) <;> (try (intros; omega)) <;> grind)

end Go.Proofs.Ytdfpenjhpemokaa.Sx
