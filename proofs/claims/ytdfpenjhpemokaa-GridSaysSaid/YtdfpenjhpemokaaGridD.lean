/-
  R.Height: the contract.
-/
import Derived.Test.YtdfpenjhpemokaaGridC
set_option linter.unusedVariables false
set_option linter.unusedSimpArgs false
namespace Go.Proofs.Ytdfpenjhpemokaa.Sx
open Go.RowKit
structure RCell4 (f h : Nat → Int) (z : Nat → Nat → Int) (X Y : Int) (i j : Nat) (a b c d q0 q1 q2 q3 L Rt s0 s1 N tl wd W : Int) : Prop where
  wa : IntKind.wrap .i64 (X - f i) = a
  wb : IntKind.wrap .i64 (Y - h j) = b
  wc : IntKind.wrap .i64 (f (i + 1) - X) = c
  wdd : IntKind.wrap .i64 (h (j + 1) - Y) = d
  w0 : IntKind.wrap .i64 (z i j * d) = q0
  w1 : IntKind.wrap .i64 (z i (j + 1) * b) = q1
  w2 : IntKind.wrap .i64 (z (i + 1) j * d) = q2
  w3 : IntKind.wrap .i64 (z (i + 1) (j + 1) * b) = q3
  wL : IntKind.wrap .i64 (q0 + q1) = L
  wR : IntKind.wrap .i64 (q2 + q3) = Rt
  ws : IntKind.wrap .i64 (L * c) = s0
  wt : IntKind.wrap .i64 (Rt * a) = s1
  wN : IntKind.wrap .i64 (s0 + s1) = N
  wtl : IntKind.wrap .i64 (h (j + 1) - h j) = tl
  wwd : IntKind.wrap .i64 (f (i + 1) - f i) = wd
  wW : IntKind.wrap .i64 (tl * wd) = W
  bW : 0 < W ∧ W ≤ 4000000000000
  bN : -4000000000000000000 ≤ N ∧ N ≤ 4000000000000000000
  v : pup2 N W = rcell f h z i j X Y
theorem mulr {P z M : Int} (h0 : 0 ≤ P) (h1 : -M ≤ z) (h2 : z ≤ M) : -(M * P) ≤ z * P ∧ z * P ≤ M * P := by
  have e1 := Int.mul_le_mul_of_nonneg_right h2 h0
  have e2 := Int.mul_le_mul_of_nonneg_right h1 h0
  rw [Int.neg_mul] at e2
  exact ⟨e2, e1⟩
theorem rcell4_is {f h : Nat → Int} {z : Nat → Nat → Int} {X Y : Int} {i j : Nat} (f1 : -1000000 ≤ f i) (f2 : f i ≤ X) (f3 : X ≤ f (i + 1)) (f4 : f (i + 1) ≤ 1000000) (f5 : f i < f (i + 1))
    (h1 : -1000000 ≤ h j) (h2 : h j ≤ Y) (h3 : Y ≤ h (j + 1)) (h4 : h (j + 1) ≤ 1000000) (h5 : h j < h (j + 1))
    (z1 : -1000000 ≤ z i j ∧ z i j ≤ 1000000) (z2 : -1000000 ≤ z (i + 1) j ∧ z (i + 1) j ≤ 1000000) (z3 : -1000000 ≤ z i (j + 1) ∧ z i (j + 1) ≤ 1000000) (z4 : -1000000 ≤ z (i + 1) (j + 1) ∧ z (i + 1) (j + 1) ≤ 1000000) :
    ∃ a b c d q0 q1 q2 q3 L Rt s0 s1 N tl wd W, RCell4 f h z X Y i j a b c d q0 q1 q2 q3 L Rt s0 s1 N tl wd W := by
  generalize hv0 : rcell f h z i j X Y = v
  have hv := hv0
  unfold rcell at hv
  obtain ⟨a, ha⟩ : ∃ a, a = X - f i := ⟨_, rfl⟩
  obtain ⟨b, hb⟩ : ∃ b, b = Y - h j := ⟨_, rfl⟩
  obtain ⟨c, hc⟩ : ∃ c, c = f (i + 1) - X := ⟨_, rfl⟩
  obtain ⟨d, hd⟩ : ∃ d, d = h (j + 1) - Y := ⟨_, rfl⟩
  obtain ⟨tl, ht⟩ : ∃ d, d = h (j + 1) - h j := ⟨_, rfl⟩
  obtain ⟨wd, hw⟩ : ∃ d, d = f (i + 1) - f i := ⟨_, rfl⟩
  have a0 : 0 ≤ a := by omega
  have b0 : 0 ≤ b := by omega
  have c0 : 0 ≤ c := by omega
  have d0 : 0 ≤ d := by omega
  have mt : tl * wd ≤ 2000000 * 2000000 := Int.mul_le_mul (by omega) (by omega) (by omega) (by omega)
  have mp : 0 < tl * wd := Int.mul_pos (by omega) (by omega)
  have r0 := mulr d0 z1.1 z1.2
  have r1 := mulr b0 z3.1 z3.2
  have r2 := mulr d0 z2.1 z2.2
  have r3 := mulr b0 z4.1 z4.2
  rw [← ha, ← hb, ← hc, ← hd, ← ht, ← hw] at hv
  generalize hq0 : z i j * d = q0 at *
  generalize hq1 : z i (j + 1) * b = q1 at *
  generalize hq2 : z (i + 1) j * d = q2 at *
  generalize hq3 : z (i + 1) (j + 1) * b = q3 at *
  generalize hW : tl * wd = W at *
  obtain ⟨L, hL⟩ : ∃ L, L = q0 + q1 := ⟨_, rfl⟩
  obtain ⟨Rt, hR⟩ : ∃ L, L = q2 + q3 := ⟨_, rfl⟩
  have t1 := mulr (M := 2000000000000) (z := L) c0 (by omega) (by omega)
  have t2 := mulr (M := 2000000000000) (z := Rt) a0 (by omega) (by omega)
  rw [← hL, ← hR] at hv
  refine ⟨a, b, c, d, q0, q1, q2, q3, L, Rt, L * c, Rt * a, L * c + Rt * a, tl, wd, W, ?_⟩
  generalize hs0 : L * c = s0 at *
  generalize hs1 : Rt * a = s1 at *
  exact ⟨by rw [← ha]; exact gw64 (by omega) (by omega), by rw [← hb]; exact gw64 (by omega) (by omega), by rw [← hc]; exact gw64 (by omega) (by omega), by rw [← hd]; exact gw64 (by omega) (by omega),
    by rw [hq0]; exact gw64 (by omega) (by omega), by rw [hq1]; exact gw64 (by omega) (by omega), by rw [hq2]; exact gw64 (by omega) (by omega), by rw [hq3]; exact gw64 (by omega) (by omega),
    by rw [← hL]; exact gw64 (by omega) (by omega), by rw [← hR]; exact gw64 (by omega) (by omega), by rw [hs0]; exact gw64 (by omega) (by omega), by rw [hs1]; exact gw64 (by omega) (by omega), gw64 (by omega) (by omega),
    by rw [← ht]; exact gw64 (by omega) (by omega), by rw [← hw]; exact gw64 (by omega) (by omega), by rw [hW]; exact gw64 (by omega) (by omega), ⟨mp, by omega⟩, ⟨by omega, by omega⟩, hv.trans hv0.symm⟩
theorem refClip_at (x lo hi m : Int) (w : World) (h : Unit → m = pclip x lo hi) (hle : lo ≤ hi) : Calls Try.prog 51 #[.int .i64 x, .int .i64 lo, .int .i64 hi] w fun e w' => e = .returned (.int .i64 m) ∧ w = w' := by
  rw [h (), ← pclip_min x lo hi hle]; exact refClip x lo hi w
def PreP (f : Nat → Int) (n : Nat) (x : Int) (i : Nat) : Prop := i + 2 ≤ n ∧ ∀ j, j < i → f (j + 1) < x
theorem PreP.step {f : Nat → Int} {n : Nat} {x : Int} {i : Nat} (h : PreP f n x i) (hx : x ≤ f (n - 1)) (hl : f (i + 1) < x) : PreP f n x (i + 1) := by
  obtain ⟨h1, h2⟩ := h
  refine ⟨?_, fun j hj => ?_⟩
  · rcases Nat.lt_or_ge (i + 2) n with hc | hc
    · omega
    · have : i + 1 = n - 1 := by omega
      rw [this] at hl
      omega
  · rcases Nat.lt_or_ge j i with hc | hc
    · exact h2 j hc
    · obtain rfl : j = i := by omega
      exact hl
theorem PreP.done {f : Nat → Int} {n : Nat} {x : Int} {i : Nat} (h : PreP f n x i) (hl : ¬ f (i + 1) < x) : IsRPiece f n x i := ⟨h.1, h.2, by omega⟩
theorem IsRPiece.lo {f : Nat → Int} {n : Nat} {x : Int} {i : Nat} (h : IsRPiece f n x i) (h0 : f 0 ≤ x) : f i ≤ x := by
  rcases Nat.eq_zero_or_pos i with hi | hi
  · rw [hi]; exact h0
  · have := h.2.1 (i - 1) (by omega)
    rw [show i - 1 + 1 = i by omega] at this
    omega
set_option maxRecDepth 100000 in
set_option maxHeartbeats 2000000 in
theorem refHeight (g h : GD) (D : ND) (hk : g.ks = [true]) (hk' : h.ks = [true]) (x y : Int) (w : World) (o : g.ok w) (o' : h.ok w) (oD : D.ok w [true]) (hz : pgrid g h D.n D.g = 0) :
    Calls Try.prog 84 #[.agg #[.slice g.A g.n g.c, .slice h.A h.n h.c, .slice D.A D.n D.c], .int .i64 x, .int .i64 y] w fun e w' => e = .returned (.int .i64 (pheight g h D.g x y)) ∧ Below w.heap.size w w' := by
  obtain ⟨e1, e2⟩ := por_0 hz
  obtain ⟨e2, e3⟩ := por_0 e2
  have hdn : D.n = g.n := Classical.byContradiction fun hc => by rw [if_pos hc] at e3; exact absurd e3 (by decide)
  rw [if_neg (by omega)] at e3
  obtain ⟨n2, n8, wf, rf⟩ := prising_parts e1
  obtain ⟨m2, m8, wh, rh⟩ := prising_parts e2
  have hr := prows_0 e3
  have f0n : g.f 0 ≤ g.f (g.n - 1) := rise_le rf 0 (g.n - 1) (by omega) (by omega)
  have h0n : h.f 0 ≤ h.f (h.n - 1) := rise_le rh 0 (h.n - 1) (by omega) (by omega)
  generalize hX : pclip x (g.f 0) (g.f (g.n - 1)) = X
  generalize hY : pclip y (h.f 0) (h.f (h.n - 1)) = Y
  have x1 : g.f 0 ≤ X := hX ▸ pclip_lo _ _ _ f0n
  have x2 : X ≤ g.f (g.n - 1) := hX ▸ pclip_hi _ _ _ f0n
  have y1 : h.f 0 ≤ Y := hY ▸ pclip_lo _ _ _ h0n
  have y2 : Y ≤ h.f (h.n - 1) := hY ▸ pclip_hi _ _ _ h0n
  have hv : pheight g h D.g x y = pcell g.f h.f (fun i j => (D.g i).f j) (ppc g.f X (g.n - 2) 0) (ppc h.f Y (h.n - 2) 0) X Y := by unfold pheight; rw [hX, hY]
  rw [hv]
  clear hv
  have HV : Hid (∀ i j, IsRPiece g.f g.n X i → IsRPiece h.f h.n Y j → rcell g.f h.f (fun i j => (D.g i).f j) i j X Y = pcell g.f h.f (fun i j => (D.g i).f j) (ppc g.f X (g.n - 2) 0) (ppc h.f Y (h.n - 2) 0) X Y) := fun i j hi hj => rheight_eq _ n2 m2 rf rh x1 x2 y1 y2 hi hj
  generalize pcell g.f h.f (fun i j => (D.g i).f j) (ppc g.f X (g.n - 2) 0) (ppc h.f Y (h.n - 2) 0) X Y = res at *
  have HC : Hid (∀ i j, IsRPiece g.f g.n X i → IsRPiece h.f h.n Y j → ∃ a b c d q0 q1 q2 q3 L Rt s0 s1 N tl wd W, RCell4 g.f h.f (fun i j => (D.g i).f j) X Y i j a b c d q0 q1 q2 q3 L Rt s0 s1 N tl wd W) := fun i j hi hj => by
    have i1 := hi.1
    have j1 := hj.1
    exact rcell4_is (wf i (by omega)).1 (hi.lo x1) hi.2.2 (wf (i + 1) (by omega)).2 (rf i (by omega)) (wh j (by omega)).1 (hj.lo y1) hj.2.2 (wh (j + 1) (by omega)).2 (rh j (by omega)) ((hr i (by omega)).2 j (by omega)) ((hr (i + 1) (by omega)).2 j (by omega)) ((hr i (by omega)).2 (j + 1) (by omega)) ((hr (i + 1) (by omega)).2 (j + 1) (by omega))
  obtain ⟨b0, o0, A0, l0, c0⟩ := gd_row1 o hk (by omega)
  obtain ⟨b1, o1, A1', l1, c1⟩ := gd_row1 o' hk' (by omega)
  obtain ⟨b2, o2, A2, l2, c2⟩ := nd_row oD (by omega)
  have C3 : Hid (∀ i, i < g.n → ∃ bl off, (D.g i).A = some ⟨bl, off, none⟩ ∧ bl < w.heap.size ∧ ∀ j, j < h.n → w.cell? ⟨bl, off + j, none⟩ = some (.int .i64 ((D.g i).f j))) := fun i hi => by
    have hm := (hr i (by omega)).1
    have := gd_row1 (oD.g i).1 (oD.g i).2 (by omega)
    rwa [hm] at this
  have C4 : Hid (∀ i, i < g.n → (D.g i).n = h.n) := fun i hi => (hr i (by omega)).1
  rw [hdn] at c2
  rw [A0, A1', A2, hdn]
  have PX := Lib.hid x2
  have PY := Lib.hid y2
  have HX := Lib.hid hX
  have HY := Lib.hid hY
  have HF := Lib.hid f0n
  have HH := Lib.hid h0n
  have c00 := c0 0 (by omega)
  have c01 := c0 (g.n - 1) (by omega)
  have c10 := c1 0 (by omega)
  have c11 := c1 (h.n - 1) (by omega)
  rw [Nat.add_zero] at c00 c10
  have HC0 := Lib.hid c0
  have HC1 := Lib.hid c1
  have HC2 := Lib.hid c2
  clear hX hY o o' oD wf wh rf rh hr c0 c1 c2 A0 A1' A2 e1 e2 e3 hz hk hk' x1 x2 y1 y2 f0n h0n hdn
  generalize hfg : g.f = f at *
  generalize hfh : h.f = hf at *
  clear hfg hfh
  generalize g.n = n1 at *
  generalize h.n = n2' at *
  have wn1 : IntKind.wrap .i64 ((n1 : Int) - 1) = ((n1 - 1 : Nat) : Int) := by rw [gw64 (by omega) (by omega)]; omega
  have wn2 : IntKind.wrap .i64 ((n2' : Int) - 1) = ((n2' - 1 : Nat) : Int) := by rw [gw64 (by omega) (by omega)]; omega
  have lt1 : n1 - 1 < n1 := by omega
  have p1 : 0 < n1 := by omega
  have p2 : 0 < n2' := by omega
  have lt2 : n2' - 1 < n2' := by omega
  generalize f 0 = fl at *
  generalize hfe : f (n1 - 1) = fh at *
  have HFE := Lib.hid hfe
  clear hfe
  generalize hf 0 = hl at *
  generalize hhe : hf (n2' - 1) = hh at *
  have HHE := Lib.hid hhe
  clear hhe
  go_enter Try.func84, Try.ntmps84
  go_upto_region 1 with fail
  refine wp_world (fun ω => Below w.heap.size w ω ∧ w.heap.size < ω.heap.size ∧ ω.cell? ⟨w.heap.size, 0, none⟩ = some (.slice (some ⟨b0, o0, none⟩) n1 g.c) ∧ ω.cell? ⟨w.heap.size, 1, none⟩ = some (.slice (some ⟨b1, o1, none⟩) n2' h.c) ∧ ω.cell? ⟨w.heap.size, 2, none⟩ = some (.slice (some ⟨b2, o2, none⟩) n1 D.c)) ⟨by (repeat' (first | (with_reducible exact Below.refl _ _) | (with_reducible assumption) | (with_reducible refine Below.alloc ?_ ?_ _) | (with_reducible refine Below.drew ?_) | (with_reducible refine below_drewN ?_ _) | (with_reducible refine Below.setCell ?_ ?_ _) | (with_reducible refine Below.trans ?_ (Below.mono (by assumption) ?_)) | omega | (simp; omega) | (simp; done))), by simp, World.cell?_alloc_mark w _ _ _ 0, World.cell?_alloc_mark w _ _ _ 1, World.cell?_alloc_mark w _ _ _ 2⟩ ?_
  rintro w1 ⟨hB1, hs1, d0, d1, d2⟩
  have k0 := (hB1.cell (p := ⟨b0, _, none⟩) l0).trans c00
  have k1 := (hB1.cell (p := ⟨b0, _, none⟩) l0).trans c01
  have k2 := (hB1.cell (p := ⟨b1, _, none⟩) l1).trans c10
  have k3 := (hB1.cell (p := ⟨b1, _, none⟩) l1).trans c11
  clear c00 c01 c10 c11
  go_region_held3 (fun ω => Below w1.heap.size w1 ω ∧ ω.cell? ⟨w.heap.size, 0, none⟩ = some (.slice (some ⟨b0, o0, none⟩) n1 g.c) ∧ ω.cell? ⟨w.heap.size, 1, none⟩ = some (.slice (some ⟨b1, o1, none⟩) n2' h.c) ∧ ω.cell? ⟨b0, o0, none⟩ = some (.int .i64 fl) ∧ ω.cell? ⟨b0, o0 + (n1 - 1), none⟩ = some (.int .i64 fh) ∧ ω.cell? ⟨b1, o1, none⟩ = some (.int .i64 hl) ∧ ω.cell? ⟨b1, o1 + (n2' - 1), none⟩ = some (.int .i64 hh)) (refine ⟨by (repeat' (first | (with_reducible exact Below.refl _ _) | (with_reducible assumption) | (with_reducible refine Below.alloc ?_ ?_ _) | (with_reducible refine Below.drew ?_) | (with_reducible refine below_drewN ?_ _) | (with_reducible refine Below.setCell ?_ ?_ _) | (with_reducible refine Below.trans ?_ (Below.mono (by assumption) ?_)) | omega | (simp; omega) | (simp; done))), ?_, ?_, ?_, ?_, ?_, ?_⟩ <;> (repeat' (first | (with_reducible assumption) | (with_reducible refine cell_alloc_keep ?_) | (with_reducible refine cell_drew_keep ?_) | (with_reducible refine cell_drewN_keep ?_) | (with_reducible refine cell_below (by assumption) ?_ ?_) | omega | (simp; done) | (simp; omega)))) (first | (go_at_call 51; ((with_reducible refine (refClip_at _ _ _ X _ (fun _ => HX.out.symm) HF.out).mono ?_); rintro e w5 ⟨rfl, rfl⟩)) | (go_at_call 51; ((with_reducible refine (refClip_at _ _ _ Y _ (fun _ => HY.out.symm) HH.out).mono ?_); rintro e w5 ⟨rfl, rfl⟩)) | fail)
  have hH : Below w1.heap.size w1 w1.drew := by (repeat' (first | (with_reducible exact Below.refl _ _) | (with_reducible assumption) | (with_reducible refine Below.alloc ?_ ?_ _) | (with_reducible refine Below.drew ?_) | (with_reducible refine below_drewN ?_ _) | (with_reducible refine Below.setCell ?_ ?_ _) | (with_reducible refine Below.trans ?_ (Below.mono (by assumption) ?_)) | omega | (simp; omega) | (simp; done)))
  refine exit_world (fun ω => Below w.heap.size w ω ∧ ω.cell? ⟨w.heap.size, 0, none⟩ = some (.slice (some ⟨b0, o0, none⟩) n1 g.c) ∧ ω.cell? ⟨w.heap.size, 1, none⟩ = some (.slice (some ⟨b1, o1, none⟩) n2' h.c) ∧ ω.cell? ⟨w.heap.size, 2, none⟩ = some (.slice (some ⟨b2, o2, none⟩) n1 D.c)) ⟨hB1.trans (hH.mono (Nat.le_of_lt hs1)), (hH.cell (p := ⟨w.heap.size, 0, none⟩) hs1).trans d0, (hH.cell (p := ⟨w.heap.size, 1, none⟩) hs1).trans d1, (hH.cell (p := ⟨w.heap.size, 2, none⟩) hs1).trans d2⟩ ?_
  clear k0 k1 k2 k3 d0 d1 d2 hB1 hs1
  rintro w2 ⟨hB2, d0, d1, d2⟩
  have c0 : Hid (∀ i, i < n1 → w2.cell? ⟨b0, o0 + i, none⟩ = some (.int .i64 (f i))) := fun i hi => (hB2.cell (p := ⟨b0, _, none⟩) l0).trans (HC0.out i hi)
  have c1 : Hid (∀ i, i < n2' → w2.cell? ⟨b1, o1 + i, none⟩ = some (.int .i64 (hf i))) := fun i hi => (hB2.cell (p := ⟨b1, _, none⟩) l1).trans (HC1.out i hi)
  have c2 : Hid (∀ i, i < n1 → w2.cell? ⟨b2, o2 + i, none⟩ = some (.slice (D.g i).A (D.g i).n (D.g i).c)) := fun i hi => (hB2.cell (p := ⟨b2, _, none⟩) l2).trans (HC2.out i hi)
  clear HC0 HC1 HC2
  go_wp2_with fail
  go_loopw [7] (fun i wr => ∃ k : Nat, i = .int .i64 k ∧ Hid (PreP f n1 X k) ∧ wr = w2) (fun i _ => n1 - (intOf i).toNat)
  case atStart => exact ⟨0, rfl, ⟨by omega, fun j hj => absurd hj (Nat.not_lt_zero _)⟩, rfl⟩
  case round =>
    obtain ⟨k, rfl, hp, rfl⟩ := hrel
    have hp1 := hp.out.1
    have wk : IntKind.wrap .i64 ((k : Int) + 1) = ((k + 1 : Nat) : Int) := by rw [gw64 (by omega) (by omega)]; omega
    have hlt : k + 1 < n1 := by omega
    have hk1 := c0.out (k + 1) hlt
    by_cases hc : f (k + 1) < X
    · have HP := Lib.hid (hp.out.step (by rw [HFE.out]; exact PX.out) hc)
      go_wp2_with fail
      go_roundw
      case rel => exact ⟨k + 1, by go_num, HP, trivial⟩
      case measure => simp [intOf]; omega
    · have HI := Lib.hid (hp.out.done hc)
      go_wp2_with fail
      clear hk1 hc hp hp1
      go_loopw [8] (fun i wz => ∃ m : Nat, i = .int .i64 m ∧ Hid (PreP hf n2' Y m) ∧ wz = wr) (fun i _ => n2' - (intOf i).toNat)
      case atStart => exact ⟨0, rfl, ⟨by omega, fun j hj => absurd hj (Nat.not_lt_zero _)⟩, rfl⟩
      case round =>
        obtain ⟨m, rfl, hp, rfl⟩ := hrel
        have hp1 := hp.out.1
        have wm : IntKind.wrap .i64 ((m : Int) + 1) = ((m + 1 : Nat) : Int) := by rw [gw64 (by omega) (by omega)]; omega
        have hmt : m + 1 < n2' := by omega
        have hk1 := c1.out (m + 1) hmt
        by_cases hc : hf (m + 1) < Y
        · have HP := Lib.hid (hp.out.step (by rw [HHE.out]; exact PY.out) hc)
          go_wp2_with fail
          go_roundw
          case rel => exact ⟨m + 1, by go_num, HP, trivial⟩
          case measure => simp [intOf]; omega
        · have HJ := Lib.hid (hp.out.done hc)
          clear hp hp1
          obtain ⟨a, b, c, d, q0, q1, q2, q3, L, Rt, s0, s1, N, tl, wd, W, hQ⟩ := HC.out k m HI.out HJ.out
          have HR := Lib.hid (hQ.v.trans (HV.out k m HI.out HJ.out))
          obtain ⟨va, vb, vc, vd, v0, v1, v2, v3, vL, vR, vs, vt, vN, vtl, vwd, vW, bW, bN, hvv⟩ := hQ
          have HW := Lib.hid bW
          have HN := Lib.hid bN
          clear bW bN hvv HC HV HI HJ
          have k0 := c0.out k (by omega)
          have k1 := c0.out (k + 1) hlt
          have k2 := c1.out m (by omega)
          have k4 := c2.out k (by omega)
          have k5 := c2.out (k + 1) hlt
          obtain ⟨b3, o3, A3, l3, c3⟩ := C3.out k (by omega)
          obtain ⟨b4, o4, A4, l4, c4⟩ := C3.out (k + 1) hlt
          rw [A3, C4.out k (by omega)] at k4
          rw [A4, C4.out (k + 1) hlt] at k5
          have k6 := (hB2.cell (p := ⟨b3, _, none⟩) l3).trans (c3 m (by omega))
          have k7 := (hB2.cell (p := ⟨b3, _, none⟩) l3).trans (c3 (m + 1) hmt)
          have k8 := (hB2.cell (p := ⟨b4, _, none⟩) l4).trans (c4 m (by omega))
          have k9 := (hB2.cell (p := ⟨b4, _, none⟩) l4).trans (c4 (m + 1) hmt)
          have hm0 : m < n2' := by omega
          have hk0 : k < n1 := by omega
          clear c3 c4 A3 A4 C3 C4 c0 c1 c2
          generalize f k = fk at *
          generalize f (k + 1) = fk1 at *
          generalize hf m = hm at *
          generalize hf (m + 1) = hm1 at *
          generalize (D.g k).f m = z00 at *
          generalize (D.g k).f (m + 1) = z01 at *
          generalize (D.g (k + 1)).f m = z10 at *
          generalize (D.g (k + 1)).f (m + 1) = z11 at *
          go_upto_region 7 with fail
          go_quiet (fail)
          go_upto_region 8 with fail
          go_quiet (fail)
          go_upto_region 9 with fail
          go_quiet (fail)
          go_upto_region 10 with fail
          refine wp_world (fun ω => Below w.heap.size w ω ∧ ω.cell? ⟨w.heap.size, 0, none⟩ = some (.slice (some ⟨b0, o0, none⟩) n1 g.c) ∧ ω.cell? ⟨b0, o0 + k, none⟩ = some (.int .i64 fk) ∧ ω.cell? ⟨b0, o0 + (k + 1), none⟩ = some (.int .i64 fk1)) ⟨by (repeat' (first | (with_reducible exact Below.refl _ _) | (with_reducible assumption) | (with_reducible refine Below.alloc ?_ ?_ _) | (with_reducible refine Below.drew ?_) | (with_reducible refine below_drewN ?_ _) | (with_reducible refine Below.setCell ?_ ?_ _) | (with_reducible refine Below.trans ?_ (Below.mono (by assumption) ?_)) | omega | (simp; omega) | (simp; done))), d0, k0, k1⟩ ?_
          clear d0 d1 d2 k0 k1 k2 k4 k5 k6 k7 k8 k9 hk1 hc hB2
          rintro w9 ⟨hB9, d0, k0, k1⟩
          have i1 : (0 : Int) ≤ (k : Int) + 1 := by omega
          have i2 : (k : Int) + 1 < (n1 : Int) := by omega
          have i3 : (k : Int) < (n1 : Int) := by omega
          have i4 : (0 : Int) ≤ (k : Int) := by omega
          have i5 : ((k : Int) + 1).toNat = k + 1 := by omega
          have i6 : IntKind.wrap .i64 ((k : Int) + 1) = (k : Int) + 1 := gw64 (by omega) (by omega)
          clear wk
          go_region_held3 (fun ω => Below w9.heap.size w9 ω ∧ ω.cell? ⟨w.heap.size, 0, none⟩ = some (.slice (some ⟨b0, o0, none⟩) n1 g.c) ∧ ω.cell? ⟨b0, o0 + k, none⟩ = some (.int .i64 fk) ∧ ω.cell? ⟨b0, o0 + (k + 1), none⟩ = some (.int .i64 fk1)) (refine ⟨by (repeat' (first | (with_reducible exact Below.refl _ _) | (with_reducible assumption) | (with_reducible refine Below.alloc ?_ ?_ _) | (with_reducible refine Below.drew ?_) | (with_reducible refine below_drewN ?_ _) | (with_reducible refine Below.setCell ?_ ?_ _) | (with_reducible refine Below.trans ?_ (Below.mono (by assumption) ?_)) | omega | (simp; omega) | (simp; done))), ?_, ?_, ?_⟩ <;> (repeat' (first | (with_reducible assumption) | (with_reducible refine cell_alloc_keep ?_) | (with_reducible refine cell_drew_keep ?_) | (with_reducible refine cell_drewN_keep ?_) | (with_reducible refine cell_below (by assumption) ?_ ?_) | omega | (simp; done) | (simp; omega)))) (first | (go_at_call 148; ((with_reducible refine (refUp _ _ _ HW.out.1 HW.out.2 (by have := HN.out.1; omega) (by have := HN.out.2; omega)).mono ?_); rintro e w5 ⟨rfl, rfl⟩)) | fail)
          go_wp2_with fail
          go_ret
          exact ⟨by rw [← HR.out]; first | rfl | skip, by (repeat' (first | (with_reducible exact Below.refl _ _) | (with_reducible assumption) | (with_reducible refine Below.alloc ?_ ?_ _) | (with_reducible refine Below.drew ?_) | (with_reducible refine below_drewN ?_ _) | (with_reducible refine Below.setCell ?_ ?_ _) | (with_reducible refine Below.trans ?_ (Below.mono (by assumption) ?_)) | omega | (simp; omega) | (simp; done)))⟩
end Go.Proofs.Ytdfpenjhpemokaa.Sx
