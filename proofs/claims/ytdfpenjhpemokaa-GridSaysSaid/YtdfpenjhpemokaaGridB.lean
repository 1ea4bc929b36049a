/-
  table.Height: the contract.
-/
import Derived.Test.YtdfpenjhpemokaaGridA
import Derived.BigQuiet
import Derived.Deep.QuietTactic
set_option linter.unusedVariables false
set_option linter.unusedSimpArgs false
namespace Go.Proofs.Ytdfpenjhpemokaa.Sx
open Go.RowKit
theorem fixClip_at (x lo hi m : Int) (w : World) (h : Unit → m = pclip x lo hi) : Calls Try.prog 133 #[.int .i64 x, .int .i64 lo, .int .i64 hi] w fun e w' => e = .returned (.int .i64 m) ∧ w = w' := by
  rw [h ()]; exact fixClip x lo hi w
structure Cell4 (f h : Nat → Int) (z : Nat → Nat → Int) (X Y : Int) (i j : Nat) (a b c d P Q R S p0 p1 p2 p3 t1 t2 N A1 B1 W : Int) : Prop where
  wa : IntKind.wrap .i64 (X - f i) = a
  wb : IntKind.wrap .i64 (Y - h j) = b
  wc : IntKind.wrap .i64 (f (i + 1) - X) = c
  wd : IntKind.wrap .i64 (h (j + 1) - Y) = d
  wP : IntKind.wrap .i64 (c * d) = P
  wQ : IntKind.wrap .i64 (a * d) = Q
  wR : IntKind.wrap .i64 (c * b) = R
  wS : IntKind.wrap .i64 (a * b) = S
  w0 : IntKind.wrap .i64 (P * z i j) = p0
  w1 : IntKind.wrap .i64 (Q * z (i + 1) j) = p1
  w2 : IntKind.wrap .i64 (R * z i (j + 1)) = p2
  w3 : IntKind.wrap .i64 (S * z (i + 1) (j + 1)) = p3
  wt1 : IntKind.wrap .i64 (p0 + p1) = t1
  wt2 : IntKind.wrap .i64 (t1 + p2) = t2
  wN : IntKind.wrap .i64 (t2 + p3) = N
  wA : IntKind.wrap .i64 (a + c) = A1
  wB : IntKind.wrap .i64 (b + d) = B1
  wW : IntKind.wrap .i64 (A1 * B1) = W
  bW : 0 < W ∧ W ≤ 4000000000000
  bN : -4000000000000000000 ≤ N ∧ N ≤ 4000000000000000000
  v : pup2 N W = pcell f h z i j X Y
theorem mulz {P z : Int} (h0 : 0 ≤ P) (h1 : -1000000 ≤ z) (h2 : z ≤ 1000000) : -(P * 1000000) ≤ P * z ∧ P * z ≤ P * 1000000 := by
  have e1 := Int.mul_le_mul_of_nonneg_left h2 h0
  have e2 := Int.mul_le_mul_of_nonneg_left h1 h0
  rw [Int.mul_neg] at e2
  exact ⟨e2, e1⟩
theorem gw64 {x : Int} (h1 : -9223372036854775808 ≤ x) (h2 : x ≤ 9223372036854775807) : IntKind.wrap .i64 x = x := IntWalk.i64_in _ ⟨by omega, by omega⟩
theorem cell4_is {f h : Nat → Int} {z : Nat → Nat → Int} {X Y : Int} {i j : Nat} (f1 : -1000000 ≤ f i) (f2 : f i ≤ X) (f3 : X ≤ f (i + 1)) (f4 : f (i + 1) ≤ 1000000) (f5 : f i < f (i + 1))
    (h1 : -1000000 ≤ h j) (h2 : h j ≤ Y) (h3 : Y ≤ h (j + 1)) (h4 : h (j + 1) ≤ 1000000) (h5 : h j < h (j + 1))
    (z1 : -1000000 ≤ z i j ∧ z i j ≤ 1000000) (z2 : -1000000 ≤ z (i + 1) j ∧ z (i + 1) j ≤ 1000000) (z3 : -1000000 ≤ z i (j + 1) ∧ z i (j + 1) ≤ 1000000) (z4 : -1000000 ≤ z (i + 1) (j + 1) ∧ z (i + 1) (j + 1) ≤ 1000000) :
    ∃ a b c d P Q R S p0 p1 p2 p3 t1 t2 N A1 B1 W, Cell4 f h z X Y i j a b c d P Q R S p0 p1 p2 p3 t1 t2 N A1 B1 W := by
  generalize hv0 : pcell f h z i j X Y = v
  have hv := hv0
  unfold pcell at hv
  obtain ⟨a, ha⟩ : ∃ a, a = X - f i := ⟨_, rfl⟩
  obtain ⟨b, hb⟩ : ∃ b, b = Y - h j := ⟨_, rfl⟩
  obtain ⟨c, hc⟩ : ∃ c, c = f (i + 1) - X := ⟨_, rfl⟩
  obtain ⟨d, hd⟩ : ∃ d, d = h (j + 1) - Y := ⟨_, rfl⟩
  have a0 : 0 ≤ a := by omega
  have b0 : 0 ≤ b := by omega
  have c0 : 0 ≤ c := by omega
  have d0 : 0 ≤ d := by omega
  have m1 := Int.mul_nonneg c0 d0
  have m2 := Int.mul_nonneg a0 d0
  have m3 := Int.mul_nonneg c0 b0
  have m4 := Int.mul_nonneg a0 b0
  have ms : (a + c) * (b + d) = c * d + a * d + c * b + a * b := by grind
  have mt : (a + c) * (b + d) ≤ 2000000 * 2000000 := Int.mul_le_mul (by omega) (by omega) (by omega) (by omega)
  have mp : 0 < (a + c) * (b + d) := Int.mul_pos (by omega) (by omega)
  have q1 := mulz m1 z1.1 z1.2
  have q2 := mulz m2 z2.1 z2.2
  have q3 := mulz m3 z3.1 z3.2
  have q4 := mulz m4 z4.1 z4.2
  refine ⟨a, b, c, d, c * d, a * d, c * b, a * b, c * d * z i j, a * d * z (i + 1) j, c * b * z i (j + 1), a * b * z (i + 1) (j + 1), c * d * z i j + a * d * z (i + 1) j, c * d * z i j + a * d * z (i + 1) j + c * b * z i (j + 1), c * d * z i j + a * d * z (i + 1) j + c * b * z i (j + 1) + a * b * z (i + 1) (j + 1), a + c, b + d, (a + c) * (b + d), ?_⟩
  rw [← ha, ← hb, ← hc, ← hd] at hv
  generalize hP : c * d = P at *
  generalize hQ : a * d = Q at *
  generalize hR : c * b = R at *
  generalize hS : a * b = S at *
  generalize hp0 : P * z i j = p0 at *
  generalize hp1 : Q * z (i + 1) j = p1 at *
  generalize hp2 : R * z i (j + 1) = p2 at *
  generalize hp3 : S * z (i + 1) (j + 1) = p3 at *
  generalize hW : (a + c) * (b + d) = W at *
  exact ⟨by rw [← ha]; exact gw64 (by omega) (by omega), by rw [← hb]; exact gw64 (by omega) (by omega), by rw [← hc]; exact gw64 (by omega) (by omega), by rw [← hd]; exact gw64 (by omega) (by omega),
    by rw [hP]; exact gw64 (by omega) (by omega), by rw [hQ]; exact gw64 (by omega) (by omega), by rw [hR]; exact gw64 (by omega) (by omega), by rw [hS]; exact gw64 (by omega) (by omega),
    by rw [hp0]; exact gw64 (by omega) (by omega), by rw [hp1]; exact gw64 (by omega) (by omega), by rw [hp2]; exact gw64 (by omega) (by omega), by rw [hp3]; exact gw64 (by omega) (by omega), gw64 (by omega) (by omega), gw64 (by omega) (by omega), gw64 (by omega) (by omega),
    gw64 (by omega) (by omega), gw64 (by omega) (by omega), by rw [hW]; exact gw64 (by omega) (by omega), ⟨mp, by omega⟩, ⟨by omega, by omega⟩, hv.trans hv0.symm⟩
theorem gpiece_in {f : Nat → Int} {n : Nat} {x : Int} (hn : 2 ≤ n) (h0 : f 0 ≤ x) (h1 : x ≤ f (n - 1)) : ppc f x (n - 2) 0 + 2 ≤ n ∧ f (ppc f x (n - 2) 0) ≤ x ∧ x ≤ f (ppc f x (n - 2) 0 + 1) := by
  obtain ⟨p1, p2, p3⟩ := ppc_is f x n (n - 2) 0 (by omega) (fun j hj => absurd hj (Nat.not_lt_zero _))
  generalize ppc f x (n - 2) 0 = p at *
  refine ⟨p1, ?_, ?_⟩
  · rcases Nat.eq_zero_or_pos p with h | h
    · rw [h]; exact h0
    · have := p2 (p - 1) (by omega)
      rwa [show p - 1 + 1 = p by omega] at this
  · rcases Nat.lt_or_ge (p + 2) n with hc | hc
    · have := p3 hc; omega
    · have : p + 1 = n - 1 := by omega
      rw [this]; exact h1
theorem tablePiece_as (g : GD) (hk : g.ks = [true]) (hn : g.n ≤ 1000) (x : Int) (hx : B64 x) (w : World) (o : g.ok w) (i : Nat) (h : Unit → i = ppc g.f x (g.n - 2) 0) :
    Calls Try.prog 153 #[.slice g.A g.n g.c, .int .i64 x] w fun e w' => e = .returned (.int .i64 i) ∧ Below w.heap.size w w' := by
  rw [h ()]; exact tablePiece g hk hn x hx w o
theorem tableCheckGrid_z (g h : GD) (D : ND) (hk : g.ks = [true]) (hk' : h.ks = [true]) (hn : g.n ≤ 1000) (hn' : h.n ≤ 1000) (hD : D.n ≤ 1000) (w : World) (o : g.ok w) (o' : h.ok w) (oD : D.ok w [true]) (hz : pgrid g h D.n D.g = 0) :
    Calls Try.prog 86 #[.agg #[.slice g.A g.n g.c, .slice h.A h.n h.c, .slice D.A D.n D.c]] w fun e w' => e = .returned .nilIface ∧ Below w.heap.size w w' := by
  have := tableCheckGrid g h D hk hk' hn hn' hD w o o' oD
  rw [hz] at this
  exact this
set_option maxRecDepth 100000 in
set_option maxHeartbeats 2000000 in
theorem tableHeight_z (g h : GD) (D : ND) (hk : g.ks = [true]) (hk' : h.ks = [true]) (hn : g.n ≤ 1000) (hn' : h.n ≤ 1000) (hD : D.n ≤ 1000) (x y : Int) (w : World) (o : g.ok w) (o' : h.ok w) (oD : D.ok w [true]) (hz : pgrid g h D.n D.g = 0) :
    Calls Try.prog 85 #[.agg #[.slice g.A g.n g.c, .slice h.A h.n h.c, .slice D.A D.n D.c], .int .i64 x, .int .i64 y] w fun e w' => e = .returned (.tuple #[.int .i64 (pheight g h D.g x y), .nilIface]) ∧ Below w.heap.size w w' := by
  obtain ⟨e1, e2⟩ := por_0 hz
  obtain ⟨e2, e3⟩ := por_0 e2
  have hdn : D.n = g.n := Classical.byContradiction fun hc => by rw [if_pos hc] at e3; exact absurd e3 (by decide)
  rw [if_neg (by omega)] at e3
  obtain ⟨n2, n8, wf, rf⟩ := prising_parts e1
  obtain ⟨m2, m8, wh, rh⟩ := prising_parts e2
  have hr := prows_0 e3
  have hT := Lib.hid fun (w1 : World) (hb : Below w.heap.size w w1) => tableCheckGrid_z g h D hk hk' hn hn' hD w1 (gd_keep o hb) (gd_keep o' hb) (nd_keep oD hb) hz
  have hE1 := Lib.hid fun (w1 : World) (hb : Below w.heap.size w w1) => tableEnds g hk (by omega) hn w1 (gd_keep o hb)
  have hE2 := Lib.hid fun (w1 : World) (hb : Below w.heap.size w w1) => tableEnds h hk' (by omega) hn' w1 (gd_keep o' hb)
  have f0n : g.f 0 ≤ g.f (g.n - 1) := rise_le rf 0 (g.n - 1) (by omega) (by omega)
  have h0n : h.f 0 ≤ h.f (h.n - 1) := rise_le rh 0 (h.n - 1) (by omega) (by omega)
  generalize hX : pclip x (g.f 0) (g.f (g.n - 1)) = X
  generalize hY : pclip y (h.f 0) (h.f (h.n - 1)) = Y
  have x1 : g.f 0 ≤ X := hX ▸ pclip_lo _ _ _ f0n
  have x2 : X ≤ g.f (g.n - 1) := hX ▸ pclip_hi _ _ _ f0n
  have y1 : h.f 0 ≤ Y := hY ▸ pclip_lo _ _ _ h0n
  have y2 : Y ≤ h.f (h.n - 1) := hY ▸ pclip_hi _ _ _ h0n
  obtain ⟨i1, i2, i3⟩ := gpiece_in n2 x1 x2
  obtain ⟨j1, j2, j3⟩ := gpiece_in m2 y1 y2
  have wX : B64 X := by have := wf 0 (by omega); have := wf (g.n - 1) (by omega); unfold B64; omega
  have wY : B64 Y := by have := wh 0 (by omega); have := wh (h.n - 1) (by omega); unfold B64; omega
  have hP1 := Lib.hid fun (w1 : World) (hb : Below w.heap.size w w1) i hi => tablePiece_as g hk hn X wX w1 (gd_keep o hb) i hi
  have hP2 := Lib.hid fun (w1 : World) (hb : Below w.heap.size w w1) i hi => tablePiece_as h hk' hn' Y wY w1 (gd_keep o' hb) i hi
  have hv : pheight g h D.g x y = pcell g.f h.f (fun i j => (D.g i).f j) (ppc g.f X (g.n - 2) 0) (ppc h.f Y (h.n - 2) 0) X Y := by unfold pheight; rw [hX, hY]
  rw [hv]
  clear hv
  generalize hi : ppc g.f X (g.n - 2) 0 = i at *
  generalize hj : ppc h.f Y (h.n - 2) 0 = j at *
  obtain ⟨a, b, c, d, P, Q, R, S, p0, p1, p2, p3, t1, t2, N, A1, B1, W, hC⟩ := cell4_is (f := g.f) (h := h.f) (z := fun i j => (D.g i).f j) (X := X) (Y := Y) (i := i) (j := j) (wf i (by omega)).1 i2 i3 (wf (i + 1) (by omega)).2 (rf i (by omega)) (wh j (by omega)).1 j2 j3 (wh (j + 1) (by omega)).2 (rh j (by omega)) ((hr i (by omega)).2 j (by omega)) ((hr (i + 1) (by omega)).2 j (by omega)) ((hr i (by omega)).2 (j + 1) (by omega)) ((hr (i + 1) (by omega)).2 (j + 1) (by omega))
  rw [← hC.v]
  obtain ⟨b0, o0, A0, l0, c0⟩ := gd_row1 o hk (by omega)
  obtain ⟨b1, o1, A1', l1, c1⟩ := gd_row1 o' hk' (by omega)
  obtain ⟨b2, o2, A2, l2, c2⟩ := nd_row oD (by omega)
  obtain ⟨b3, o3, A3, l3, c3⟩ := gd_row1 (oD.g i).1 (oD.g i).2 (by rw [(hr i (by omega)).1]; omega)
  obtain ⟨b4, o4, A4, l4, c4⟩ := gd_row1 (oD.g (i + 1)).1 (oD.g (i + 1)).2 (by rw [(hr (i + 1) (by omega)).1]; omega)
  have k0 := c0 i (by omega)
  have k1 := c0 (i + 1) (by omega)
  have k2 := c1 j (by omega)
  have k3 := c1 (j + 1) (by omega)
  have k4 := c2 i (by omega)
  have k5 := c2 (i + 1) (by omega)
  have k6 := c3 j (by rw [(hr i (by omega)).1]; omega)
  have k7 := c3 (j + 1) (by rw [(hr i (by omega)).1]; omega)
  have k8 := c4 j (by rw [(hr (i + 1) (by omega)).1]; omega)
  have k9 := c4 (j + 1) (by rw [(hr (i + 1) (by omega)).1]; omega)
  rw [A3] at k4
  rw [A4] at k5
  rw [(hr i (by omega)).1] at k4
  rw [(hr (i + 1) (by omega)).1] at k5
  rw [A0] at hT hE1 hP1 ⊢
  rw [A1'] at hT hE2 hP2 ⊢
  rw [A2, hdn] at hT ⊢
  have HX := Lib.hid hX
  have HY := Lib.hid hY
  have HI := Lib.hid hi
  have HJ := Lib.hid hj
  have wi : IntKind.wrap .i64 ((i : Int) + 1) = ((i + 1 : Nat) : Int) := by rw [gw64 (by omega) (by omega)]; omega
  have wj : IntKind.wrap .i64 ((j : Int) + 1) = ((j + 1 : Nat) : Int) := by rw [gw64 (by omega) (by omega)]; omega
  have bi : i + 1 < g.n := by omega
  have bj : j + 1 < h.n := by omega
  have bi0 : i < g.n := by omega
  have bj0 : j < h.n := by omega
  obtain ⟨va, vb, vc, vd, vP, vQ, vR, vS, v0, v1, v2, v3, vt1, vt2, vN, vA, vB, vW, bW, bN, hvv⟩ := hC
  clear hvv
  have HW := Lib.hid bW
  have HN := Lib.hid bN
  clear bW bN hX hY hi hj o o' oD wf wh rf rh hr c0 c1 c2 c3 c4 A0 A1' A2 A3 A4 e1 e2 e3 hz hk hk' x1 x2 y1 y2 i2 i3 j2 j3 wX wY f0n h0n i1 j1
  clear hdn hD
  generalize g.f 0 = gl at *
  generalize g.f (g.n - 1) = gh at *
  generalize h.f 0 = hl at *
  generalize h.f (h.n - 1) = hh at *
  generalize g.f i = fi0 at *
  generalize g.f (i + 1) = fi1 at *
  generalize h.f j = hj0 at *
  generalize h.f (j + 1) = hj1 at *
  generalize (D.g i).f j = z00 at *
  generalize (D.g i).f (j + 1) = z01 at *
  generalize (D.g (i + 1)).f j = z10 at *
  generalize (D.g (i + 1)).f (j + 1) = z11 at *
  generalize g.n = n1 at *
  generalize h.n = n2 at *
  go_enter Try.func85, Try.ntmps85
  go_upto_region 8 with (first | (go_at_call 86; ((with_reducible refine (hT.out _ (by (repeat' (first | (with_reducible exact Below.refl _ _) | (with_reducible assumption) | (with_reducible refine Below.alloc ?_ ?_ _) | (with_reducible refine Below.drew ?_) | (with_reducible refine below_drewN ?_ _) | (with_reducible refine Below.setCell ?_ ?_ _) | (with_reducible refine Below.trans ?_ (Below.mono (by assumption) ?_)) | omega | (simp; omega) | (simp; done))))).mono ?_); rintro e w1 ⟨rfl, hb1⟩; have hz1 := hb1.size; (repeat (first | simp only [World.size_alloc] at hz1 | simp only [World.size_drew] at hz1 | simp only [World.size_setCell] at hz1)); have hB1 : Below w.heap.size w w1 := by (repeat' (first | (with_reducible exact Below.refl _ _) | (with_reducible assumption) | (with_reducible refine Below.alloc ?_ ?_ _) | (with_reducible refine Below.drew ?_) | (with_reducible refine below_drewN ?_ _) | (with_reducible refine Below.setCell ?_ ?_ _) | (with_reducible refine Below.trans ?_ (Below.mono (by assumption) ?_)) | omega | (simp; omega) | (simp; done)))); (have hq1_0 := fun o : Nat => hb1.cell (p := ⟨w.heap.size, o, none⟩) (by first | omega | (simp; done) | (simp; omega))); (have hf1_0 := fun o : Nat => hb1.frozen (p := ⟨w.heap.size, o, none⟩) (by first | omega | (simp; done) | (simp; omega))); (have hy1_0 : w.heap.size < w1.heap.size := by omega); clear hb1) | (go_at_call 152; ((with_reducible refine (hE1.out _ (by (repeat' (first | (with_reducible exact Below.refl _ _) | (with_reducible assumption) | (with_reducible refine Below.alloc ?_ ?_ _) | (with_reducible refine Below.drew ?_) | (with_reducible refine below_drewN ?_ _) | (with_reducible refine Below.setCell ?_ ?_ _) | (with_reducible refine Below.trans ?_ (Below.mono (by assumption) ?_)) | omega | (simp; omega) | (simp; done))))).mono ?_); rintro e w2 ⟨rfl, hb2⟩; have hz2 := hb2.size; (repeat (first | simp only [World.size_alloc] at hz2 | simp only [World.size_drew] at hz2 | simp only [World.size_setCell] at hz2)); have hB2 : Below w.heap.size w w2 := by (repeat' (first | (with_reducible exact Below.refl _ _) | (with_reducible assumption) | (with_reducible refine Below.alloc ?_ ?_ _) | (with_reducible refine Below.drew ?_) | (with_reducible refine below_drewN ?_ _) | (with_reducible refine Below.setCell ?_ ?_ _) | (with_reducible refine Below.trans ?_ (Below.mono (by assumption) ?_)) | omega | (simp; omega) | (simp; done)))); (have hq2_0 := fun o : Nat => hb2.cell (p := ⟨w.heap.size, o, none⟩) (by first | omega | (simp; done) | (simp; omega))); (have hf2_0 := fun o : Nat => hb2.frozen (p := ⟨w.heap.size, o, none⟩) (by first | omega | (simp; done) | (simp; omega))); (have hy2_0 : w.heap.size < w2.heap.size := by omega); clear hb2) | (go_at_call 152; ((with_reducible refine (hE2.out _ (by (repeat' (first | (with_reducible exact Below.refl _ _) | (with_reducible assumption) | (with_reducible refine Below.alloc ?_ ?_ _) | (with_reducible refine Below.drew ?_) | (with_reducible refine below_drewN ?_ _) | (with_reducible refine Below.setCell ?_ ?_ _) | (with_reducible refine Below.trans ?_ (Below.mono (by assumption) ?_)) | omega | (simp; omega) | (simp; done))))).mono ?_); rintro e w3 ⟨rfl, hb3⟩; have hz3 := hb3.size; (repeat (first | simp only [World.size_alloc] at hz3 | simp only [World.size_drew] at hz3 | simp only [World.size_setCell] at hz3)); have hB3 : Below w.heap.size w w3 := by (repeat' (first | (with_reducible exact Below.refl _ _) | (with_reducible assumption) | (with_reducible refine Below.alloc ?_ ?_ _) | (with_reducible refine Below.drew ?_) | (with_reducible refine below_drewN ?_ _) | (with_reducible refine Below.setCell ?_ ?_ _) | (with_reducible refine Below.trans ?_ (Below.mono (by assumption) ?_)) | omega | (simp; omega) | (simp; done)))); (have hq3_0 := fun o : Nat => hb3.cell (p := ⟨w.heap.size, o, none⟩) (by first | omega | (simp; done) | (simp; omega))); (have hf3_0 := fun o : Nat => hb3.frozen (p := ⟨w.heap.size, o, none⟩) (by first | omega | (simp; done) | (simp; omega))); (have hy3_0 : w.heap.size < w3.heap.size := by omega); clear hb3) | (go_at_call 133; ((with_reducible refine (fixClip_at _ _ _ X _ (fun _ => HX.out.symm)).mono ?_); rintro e w' ⟨rfl, rfl⟩)) | (go_at_call 133; ((with_reducible refine (fixClip_at _ _ _ Y _ (fun _ => HY.out.symm)).mono ?_); rintro e w' ⟨rfl, rfl⟩)))
  refine wp_world (fun ω => Below w.heap.size w ω ∧ w.heap.size < ω.heap.size ∧ ω.cell? ⟨w.heap.size, 0, none⟩ = some (.slice (some ⟨b0, o0, none⟩) n1 g.c) ∧ ω.cell? ⟨w.heap.size, 1, none⟩ = some (.slice (some ⟨b1, o1, none⟩) n2 h.c) ∧ ω.cell? ⟨w.heap.size, 2, none⟩ = some (.slice (some ⟨b2, o2, none⟩) n1 D.c)) ⟨hB3, hy3_0, by rw [hq3_0, hq2_0, hq1_0]; exact World.cell?_alloc_mark w _ _ _ 0, by rw [hq3_0, hq2_0, hq1_0]; exact World.cell?_alloc_mark w _ _ _ 1, by rw [hq3_0, hq2_0, hq1_0]; exact World.cell?_alloc_mark w _ _ _ 2⟩ ?_
  clear hq1_0 hq2_0 hq3_0 hf1_0 hf2_0 hf3_0 hB1 hB2 hB3 hy1_0 hy2_0 hy3_0 hz1 hz2 hz3 hT hE1 hE2 w1 w2 w3
  rintro w4 ⟨hB4, hs4, d0, d1, d2⟩
  have hP3 := Lib.hid fun (w1 : World) (hb : Below w4.heap.size w4 w1) => hP1.out w1 (hB4.trans (hb.mono (Nat.le_of_lt hs4))) i (fun _ => rfl)
  have hP4 := Lib.hid fun (w1 : World) (hb : Below w4.heap.size w4 w1) => hP2.out w1 (hB4.trans (hb.mono (Nat.le_of_lt hs4))) j (fun _ => rfl)
  clear hP1 hP2
  go_region_held3 (fun ω => Below w4.heap.size w4 ω ∧ ω.cell? ⟨w.heap.size, 0, none⟩ = some (.slice (some ⟨b0, o0, none⟩) n1 g.c) ∧ ω.cell? ⟨w.heap.size, 1, none⟩ = some (.slice (some ⟨b1, o1, none⟩) n2 h.c)) (refine ⟨by (repeat' (first | (with_reducible exact Below.refl _ _) | (with_reducible assumption) | (with_reducible refine Below.alloc ?_ ?_ _) | (with_reducible refine Below.drew ?_) | (with_reducible refine below_drewN ?_ _) | (with_reducible refine Below.setCell ?_ ?_ _) | (with_reducible refine Below.trans ?_ (Below.mono (by assumption) ?_)) | omega | (simp; omega) | (simp; done))), ?_, ?_⟩ <;> (repeat' (first | (with_reducible assumption) | (with_reducible refine cell_alloc_keep ?_) | (with_reducible refine cell_drew_keep ?_) | (with_reducible refine cell_drewN_keep ?_) | (with_reducible refine cell_below (by assumption) ?_ ?_) | omega | (simp; done) | (simp; omega)))) (first | (go_at_call 153; ((with_reducible refine (hP3.out _ (by (repeat' (first | (with_reducible exact Below.refl _ _) | (with_reducible assumption) | (with_reducible refine Below.alloc ?_ ?_ _) | (with_reducible refine Below.drew ?_) | (with_reducible refine below_drewN ?_ _) | (with_reducible refine Below.setCell ?_ ?_ _) | (with_reducible refine Below.trans ?_ (Below.mono (by assumption) ?_)) | omega | (simp; omega) | (simp; done))))).mono ?_); rintro e w5 ⟨rfl, hb5⟩; have hz5 := hb5.size; (repeat (first | simp only [World.size_alloc] at hz5 | simp only [World.size_drew] at hz5 | simp only [World.size_setCell] at hz5)))) | (go_at_call 153; ((with_reducible refine (hP4.out _ (by (repeat' (first | (with_reducible exact Below.refl _ _) | (with_reducible assumption) | (with_reducible refine Below.alloc ?_ ?_ _) | (with_reducible refine Below.drew ?_) | (with_reducible refine below_drewN ?_ _) | (with_reducible refine Below.setCell ?_ ?_ _) | (with_reducible refine Below.trans ?_ (Below.mono (by assumption) ?_)) | omega | (simp; omega) | (simp; done))))).mono ?_); rintro e w5 ⟨rfl, hb5⟩; have hz5 := hb5.size; (repeat (first | simp only [World.size_alloc] at hz5 | simp only [World.size_drew] at hz5 | simp only [World.size_setCell] at hz5)))))
  have hH : Below w4.heap.size w4 w5 ∧ w5.cell? ⟨w.heap.size, 0, none⟩ = some (.slice (some ⟨b0, o0, none⟩) n1 g.c) ∧ w5.cell? ⟨w.heap.size, 1, none⟩ = some (.slice (some ⟨b1, o1, none⟩) n2 h.c) := by assumption
  have hZ : Below w.heap.size w w5 := hB4.trans (hH.1.mono (Nat.le_of_lt hs4))
  refine exit_world (fun ω => Below w.heap.size w ω ∧ ω.cell? ⟨w.heap.size, 0, none⟩ = some (.slice (some ⟨b0, o0, none⟩) n1 g.c) ∧ ω.cell? ⟨w.heap.size, 1, none⟩ = some (.slice (some ⟨b1, o1, none⟩) n2 h.c) ∧ ω.cell? ⟨w.heap.size, 2, none⟩ = some (.slice (some ⟨b2, o2, none⟩) n1 D.c) ∧ ω.cell? ⟨b0, o0 + i, none⟩ = some (.int .i64 fi0) ∧ ω.cell? ⟨b0, o0 + (i + 1), none⟩ = some (.int .i64 fi1) ∧ ω.cell? ⟨b1, o1 + j, none⟩ = some (.int .i64 hj0) ∧ ω.cell? ⟨b1, o1 + (j + 1), none⟩ = some (.int .i64 hj1) ∧ ω.cell? ⟨b2, o2 + i, none⟩ = some (.slice (some ⟨b3, o3, none⟩) n2 (D.g i).c) ∧ ω.cell? ⟨b2, o2 + (i + 1), none⟩ = some (.slice (some ⟨b4, o4, none⟩) n2 (D.g (i + 1)).c) ∧ ω.cell? ⟨b3, o3 + j, none⟩ = some (.int .i64 z00) ∧ ω.cell? ⟨b3, o3 + (j + 1), none⟩ = some (.int .i64 z01) ∧ ω.cell? ⟨b4, o4 + j, none⟩ = some (.int .i64 z10) ∧ ω.cell? ⟨b4, o4 + (j + 1), none⟩ = some (.int .i64 z11)) ⟨hZ, hH.2.1, hH.2.2, (hH.1.cell (p := ⟨w.heap.size, 2, none⟩) hs4).trans d2, (hZ.cell (p := ⟨b0, _, none⟩) l0).trans k0, (hZ.cell (p := ⟨b0, _, none⟩) l0).trans k1, (hZ.cell (p := ⟨b1, _, none⟩) l1).trans k2, (hZ.cell (p := ⟨b1, _, none⟩) l1).trans k3, (hZ.cell (p := ⟨b2, _, none⟩) l2).trans k4, (hZ.cell (p := ⟨b2, _, none⟩) l2).trans k5, (hZ.cell (p := ⟨b3, _, none⟩) l3).trans k6, (hZ.cell (p := ⟨b3, _, none⟩) l3).trans k7, (hZ.cell (p := ⟨b4, _, none⟩) l4).trans k8, (hZ.cell (p := ⟨b4, _, none⟩) l4).trans k9⟩ ?_
  clear k0 k1 k2 k3 k4 k5 k6 k7 k8 k9 hZ hH hb5 hz5
  rename_i hHeld
  clear hHeld
  rintro w6 ⟨hB6, d6, d7, d8, k0, k1, k2, k3, k4, k5, k6, k7, k8, k9⟩
  clear d0 d1 d2 hP3 hP4 hB4 hs4
  go_upto_region 9 with fail
  go_region
  go_upto_region 10 with fail
  go_region
  go_upto_region 11 with fail
  go_quiet (fail)
  go_wp2_with (go_at_call 154; ((with_reducible refine (tableNear _ _ _ HW.out.1 HW.out.2 (by have := HN.out.1; omega) (by have := HN.out.2; omega)).mono ?_); rintro e w' ⟨rfl, rfl⟩))
  refine bodyPost_ret (v := .tuple #[.int .i64 (pup2 N W), .nilIface]) ?_ rfl ⟨rfl, by (repeat' (first | (with_reducible exact Below.refl _ _) | (with_reducible assumption) | (with_reducible refine Below.alloc ?_ ?_ _) | (with_reducible refine Below.drew ?_) | (with_reducible refine below_drewN ?_ _) | (with_reducible refine Below.setCell ?_ ?_ _) | (with_reducible refine Below.trans ?_ (Below.mono (by assumption) ?_)) | omega | (simp; omega) | (simp; done)))⟩
  simp [results, Try.results85, go_sem]
set_option maxRecDepth 100000 in
set_option maxHeartbeats 1000000 in
theorem tableHeight_e (g h : GD) (D : ND) (hk : g.ks = [true]) (hk' : h.ks = [true]) (hn : g.n ≤ 1000) (hn' : h.n ≤ 1000) (hD : D.n ≤ 1000) (x y : Int) (w : World) (o : g.ok w) (o' : h.ok w) (oD : D.ok w [true]) (hz : pgrid g h D.n D.g ≠ 0) :
    Calls Try.prog 85 #[.agg #[.slice g.A g.n g.c, .slice h.A h.n h.c, .slice D.A D.n D.c], .int .i64 x, .int .i64 y] w fun e w' => e = .returned (.tuple #[.int .i64 0, errV (pgrid g h D.n D.g)]) ∧ Below w.heap.size w w' := by
  have hz2 : (pgrid g h D.n D.g != 0) = true := by simpa using hz
  have hT := Lib.hid fun (w1 : World) (hb : Below w.heap.size w w1) => tableCheckGrid g h D hk hk' hn hn' hD w1 (gd_keep o hb) (gd_keep o' hb) (nd_keep oD hb)
  clear hz o o' oD hk hk'
  generalize pgrid g h D.n D.g = pe at *
  go_enter Try.func85, Try.ntmps85
  go_wp2_with (go_at_call 86; ((with_reducible refine (hT.out _ (by (repeat' (first | (with_reducible exact Below.refl _ _) | (with_reducible assumption) | (with_reducible refine Below.alloc ?_ ?_ _) | (with_reducible refine Below.drew ?_) | (with_reducible refine below_drewN ?_ _) | (with_reducible refine Below.setCell ?_ ?_ _) | (with_reducible refine Below.trans ?_ (Below.mono (by assumption) ?_)) | omega | (simp; omega) | (simp; done))))).mono ?_); rintro e w1 ⟨rfl, hb1⟩; have hz1 := hb1.size; simp only [World.size_alloc] at hz1))
  refine bodyPost_ret (v := .tuple #[.int .i64 0, errV pe]) ?_ rfl ⟨rfl, by (repeat' (first | (with_reducible exact Below.refl _ _) | (with_reducible assumption) | (with_reducible refine Below.alloc ?_ ?_ _) | (with_reducible refine Below.drew ?_) | (with_reducible refine below_drewN ?_ _) | (with_reducible refine Below.setCell ?_ ?_ _) | (with_reducible refine Below.trans ?_ (Below.mono (by assumption) ?_)) | omega | (simp; omega) | (simp; done)))⟩
  simp [results, Try.results85, go_sem]
end Go.Proofs.Ytdfpenjhpemokaa.Sx
