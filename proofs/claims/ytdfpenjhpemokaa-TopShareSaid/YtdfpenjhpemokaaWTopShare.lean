/-
  The law TopShare walked.
-/
import Derived.Test.YtdfpenjhpemokaaTopShareC
import Derived.BigQuiet
set_option linter.unusedVariables false
namespace Go.Proofs.Ytdfpenjhpemokaa.Sx
open Go.RowKit
set_option maxRecDepth 100000 in
set_option maxHeartbeats 2000000 in
theorem topShare_true (g : GD) (hk : g.ks = [true]) (n z : Int) (bn : B64 n) (bz : B64 z) (w : World) (o : g.ok w) :
    Calls Try.prog 28 #[.slice g.A g.n g.c, .int .i64 n, .int .i64 z] w fun e w' => e = .returned (.bool true) ∧ Below w.heap.size w w' := by
  have HG := Lib.hid o
  have hraw : ∀ bl off s, g.A = some ⟨bl, off, s⟩ → 0 < g.n → bl < w.heap.size := fun bl off s e hn => by
    obtain ⟨bl', off', e1, e2, _⟩ := o.cell 0 0 hn (by rw [hk]; decide)
    rw [e] at e1
    cases e1
    exact e2
  clear o
  go_enter Try.func28, Try.ntmps28
  by_cases hn : 100 < g.n
  · go_wp2_with (first | (go_at_call 87; ((with_reducible refine (topAwake _).mono ?_); rintro e w1 ⟨rfl, hb1⟩; have hz1 := hb1.size)) | fail)
    go_ret
    exact ⟨rfl, by (repeat' (first | (with_reducible exact Below.refl _ _) | (with_reducible assumption) | (with_reducible refine Below.alloc ?_ ?_ _) | (with_reducible refine Below.drew ?_) | (with_reducible refine below_drewN ?_ _) | (with_reducible refine Below.setCell ?_ ?_ _) | (with_reducible refine Below.trans ?_ (Below.mono (by assumption) ?_)) | omega | (simp; omega) | (simp; done)))⟩
  · go_upto_region 4 with (first | (go_at_call 87; ((with_reducible refine (topAwake _).mono ?_); rintro e w1 ⟨rfl, hb1⟩; have hz1 := hb1.size)) | fail)
    refine wp_world (fun ω => Below w.heap.size w ω ∧ DiceOk ω w1.heap.size g 0 ∧ w1.heap.size < ω.heap.size) ⟨by (repeat' (first | (with_reducible exact Below.refl _ _) | (with_reducible assumption) | (with_reducible refine Below.alloc ?_ ?_ _) | (with_reducible refine Below.drew ?_) | (with_reducible refine below_drewN ?_ _) | (with_reducible refine Below.setCell ?_ ?_ _) | (with_reducible refine Below.trans ?_ (Below.mono (by assumption) ?_)) | omega | (simp; omega) | (simp; done))), dice_new _ _ _ rfl g hk (by omega) (gd_below' HG.out hb1) (fun bl off s e h0 => by have := hraw bl off s e h0; omega), by simp⟩ ?_
    have hdw : w.heap.size ≤ w1.heap.size := hb1.size
    clear hb1 hz1 HG
    generalize w1.heap.size = d at *
    rintro w4 ⟨hB4, hD4, hs4⟩
    have HG4 := Lib.hid hD4.ok
    go_upto_region 5 with (first | (go_at_call 63; ((with_reducible refine (craftFrom g hk (by omega) _ HG4.out).mono ?_); rintro e w5 ⟨x, y, li, co, rfl, hx, hy, l1, l2, l3, l4, hb5⟩; have hz5 := hb5.size; have hf5 := craftAxes x y li co; have hi5 := axes1 x y)) | (go_at_call 94; ((with_reducible refine (refActRule y _).mono ?_); rintro e w6 ⟨rfl, hb6⟩; have hz6 := hb6.size)) | fail)
    refine wp_world (fun ω => Below w.heap.size w ω ∧ DiceOk ω d g 0 ∧ w6.heap.size < ω.heap.size ∧ ω.cell? ⟨w6.heap.size, 0, none⟩ = some (.int .i64 y.tr) ∧ ω.cell? ⟨w6.heap.size, 1, none⟩ = some (.int .i64 y.ra) ∧ ω.cell? ⟨w6.heap.size, 2, none⟩ = some (.int .i64 y.sl) ∧ ω.cell? ⟨w6.heap.size, 3, none⟩ = some (.int .i64 y.wa)) ⟨by (repeat' (first | (with_reducible exact Below.refl _ _) | (with_reducible assumption) | (with_reducible refine Below.alloc ?_ ?_ _) | (with_reducible refine Below.drew ?_) | (with_reducible refine below_drewN ?_ _) | (with_reducible refine Below.setCell ?_ ?_ _) | (with_reducible refine Below.trans ?_ (Below.mono (by assumption) ?_)) | omega | (simp; omega) | (simp; done))), ((hD4.below hb5).below hb6).alloc _, by simp, World.cell?_alloc_mark w6 _ _ _ 0, World.cell?_alloc_mark w6 _ _ _ 1, World.cell?_alloc_mark w6 _ _ _ 2, World.cell?_alloc_mark w6 _ _ _ 3⟩ ?_
    have hsb : d < w6.heap.size := by omega
    obtain ⟨⟨_, _⟩, ⟨t1, t2⟩, ⟨r1, r2⟩, ⟨sl1, sl2⟩, _, _, _, ⟨c1, c2⟩, _⟩ := hy
    clear hB4 hD4 hb5 hb6 hz5 hz6 hs4 hf5 hi5 HG4
    generalize y.tr = t at *
    generalize y.ra = r at *
    generalize y.sl = s at *
    generalize y.wa = c at *
    generalize w6.heap.size = rb at *
    rintro w7 ⟨hB7, hD7, hs7, q0, q1, q2, q3⟩
    have hrd : rb ≠ d := by omega
    obtain ⟨m, hm⟩ : ∃ m : Nat, 1 + n % 4 = (m : Int) := ⟨(1 + n % 4).toNat, by omega⟩
    have hwm : IntKind.wrap .i64 (m : Int) = (m : Int) := IntWalk.i64_in _ ⟨by omega, by omega⟩
    have hm4 : m ≤ 4 := by omega
    have hm1 : 1 ≤ m := by omega
    have hAF : Hid (AFine t r s c) := ⟨t1, t2, r1, r2, sl1, sl2, c1, c2⟩
    go_region_held3 (fun ω => ω.cell? ⟨rb, 0, none⟩ = some (.int .i64 t) ∧ ω.cell? ⟨rb, 1, none⟩ = some (.int .i64 r) ∧ ω.cell? ⟨rb, 2, none⟩ = some (.int .i64 s) ∧ ω.cell? ⟨rb, 3, none⟩ = some (.int .i64 c)) (refine ⟨?_, ?_, ?_, ?_⟩ <;> (repeat' (first | (with_reducible assumption) | (with_reducible refine cell_alloc_keep ?_) | (with_reducible refine cell_drew_keep ?_) | (with_reducible refine cell_drewN_keep ?_) | (with_reducible refine cell_grown (by with_reducible assumption) ?_ hrd) | (with_reducible refine cell_below (by assumption) ?_ ?_) | omega | (simp; done) | (simp; omega)))) (first | (go_at_call 64; ((with_reducible refine (refPick _ _ _ (by omega) (by omega)).mono ?_); rintro e w8 ⟨rfl, rfl⟩)) | (go_at_call 95; ((with_reducible refine (servosFrom _ g 0 t r s c m _ (by (repeat' (first | (with_reducible assumption) | (with_reducible refine DiceOk.alloc ?_ _) | (with_reducible refine DiceOk.drew ?_)))) (by omega) (by omega) hm4 t1 t2 c1 c2).mono ?_); rintro e w8 ⟨v8, L, rfl, hL, hfine, hown, hg8, hdd⟩; obtain ⟨hv8, ok8⟩ := svGD_ok hown hL hm4 (fun x h => (by have := hfine x h; unfold SvFine at this; unfold B64; omega)); have hm8 : pspreadMay (svGD v8 m L) t r s c = 0 := svGD_may v8 hL hfine hAF.out hm1 hm4; have hk8 : (svGD v8 m L).ks = [true, true, false] := rfl; have hn8 : (svGD v8 m L).n = m := rfl; clear hfine hdd; generalize svGD v8 m L = g8 at *; subst hv8; have hz8 := hg8.size; (repeat (first | simp only [World.size_alloc] at hz8 | simp only [World.size_drew] at hz8)))) | fail)
    have hH : w8.cell? ⟨rb, 0, none⟩ = some (.int .i64 t) ∧ w8.cell? ⟨rb, 1, none⟩ = some (.int .i64 r) ∧ w8.cell? ⟨rb, 2, none⟩ = some (.int .i64 s) ∧ w8.cell? ⟨rb, 3, none⟩ = some (.int .i64 c) := by assumption
    refine exit_world (fun ω => Below w.heap.size w ω ∧ g8.ok ω ∧ rb < ω.heap.size ∧ ω.cell? ⟨rb, 0, none⟩ = some (.int .i64 t) ∧ ω.cell? ⟨rb, 1, none⟩ = some (.int .i64 r) ∧ ω.cell? ⟨rb, 2, none⟩ = some (.int .i64 s) ∧ ω.cell? ⟨rb, 3, none⟩ = some (.int .i64 c)) ⟨Below.grown (Below.drew hB7) hg8 (by simp; omega) (fun k hk => by cases hk; omega), ok8, by omega, hH⟩ ?_
    rintro w9 ⟨hB9, ok9, hs9, p0, p1, p2, p3⟩
    subst hn8
    clear hg8 ok8 hH hown hD7 hB7 q0 q1 q2 q3 hz8 hs7
    have hbt : g8.n ≤ 4 := by omega
    obtain ⟨S, hS⟩ : ∃ v, min (max z (-5000)) 5000 = v := ⟨_, rfl⟩
    have hS1 : -5000 ≤ S ∧ S ≤ 5000 := by omega
    have bS : B64 S := by unfold B64; omega
    have HS : Hid (∀ w, Calls Try.prog 51 #[.int .i64 z, .int .i64 (-5000), .int .i64 5000] w fun e w' => e = .returned (.int .i64 S) ∧ w = w') := fun w => by rw [← hS]; exact refClip z (-5000) 5000 w
    clear hS
    have hwt : IntKind.wrap .i64 (-t) = -t := IntWalk.i64_in _ ⟨by omega, by omega⟩
    have hA8 : TsAt t r s c S g8.n (fun i => g8.fb i 2) 0 g8 w9 := TsAt.start hk8 ok9 hm8
    clear ok9
    go_upto_region 7 with (first | (go_at_call 51; ((with_reducible refine (HS.out _).mono ?_); rintro e w10 ⟨rfl, rfl⟩)) | fail)
    clear HS
    obtain ⟨lo, hlo⟩ : ∃ v, ptotS g8 t r (-t) g8.n = v := ⟨_, rfl⟩
    obtain ⟨hi, hhi⟩ : ∃ v, ptotS g8 t r t g8.n = v := ⟨_, rfl⟩
    have hlh : lo ≤ hi := by rw [← hlo, ← hhi]; exact ptotS_mono g8 t r (by omega) g8.n
    have HT : Hid (∀ (x : Int) (w1 : World), Below w9.heap.size w9 w1 → B64 x → Calls Try.prog 124 #[.agg #[.int .i64 t, .int .i64 r, .int .i64 s, .int .i64 c], .slice g8.A g8.n g8.c, .int .i64 x] w1 fun e w' => e = .returned (.int .i64 (ptotS g8 t r x g8.n)) ∧ Below w1.heap.size w1 w') := fun x w1 hb bx => refTotal g8 hk8 t r s c x w1 (gd_below' hA8.ok hb) hm8 bx
    go_region_held3 (fun ω => Below w9.heap.size w9 ω ∧ ω.cell? ⟨rb, 0, none⟩ = some (.int .i64 t) ∧ ω.cell? ⟨rb, 1, none⟩ = some (.int .i64 r) ∧ ω.cell? ⟨rb, 2, none⟩ = some (.int .i64 s) ∧ ω.cell? ⟨rb, 3, none⟩ = some (.int .i64 c)) (refine ⟨by (repeat' (first | (with_reducible exact Below.refl _ _) | (with_reducible assumption) | (with_reducible refine Below.alloc ?_ ?_ _) | (with_reducible refine Below.drew ?_) | (with_reducible refine below_drewN ?_ _) | (with_reducible refine Below.setCell ?_ ?_ _) | (with_reducible refine Below.trans ?_ (Below.mono (by assumption) ?_)) | omega | (simp; omega) | (simp; done))), ?_, ?_, ?_, ?_⟩ <;> (repeat' (first | (with_reducible assumption) | (with_reducible refine cell_alloc_keep ?_) | (with_reducible refine cell_drew_keep ?_) | (with_reducible refine cell_drewN_keep ?_) | (with_reducible refine cell_grown (by with_reducible assumption) ?_ hrd) | (with_reducible refine cell_below (by assumption) ?_ ?_) | omega | (simp; done) | (simp; omega)))) (first | (go_at_call 124; ((with_reducible refine (HT.out _ _ (by (repeat' (first | (with_reducible exact Below.refl _ _) | (with_reducible assumption) | (with_reducible refine Below.alloc ?_ ?_ _) | (with_reducible refine Below.drew ?_) | (with_reducible refine below_drewN ?_ _) | (with_reducible refine Below.setCell ?_ ?_ _) | (with_reducible refine Below.trans ?_ (Below.mono (by assumption) ?_)) | omega | (simp; omega) | (simp; done)))) (by unfold B64; omega)).mono ?_); rintro e w10 ⟨rfl, hb10⟩; have hz10 := hb10.size; (repeat (first | simp only [World.size_alloc] at hz10 | simp only [World.size_drew] at hz10)))) | fail)
    have hH : Below w9.heap.size w9 w10 ∧ w10.cell? ⟨rb, 0, none⟩ = some (.int .i64 t) ∧ w10.cell? ⟨rb, 1, none⟩ = some (.int .i64 r) ∧ w10.cell? ⟨rb, 2, none⟩ = some (.int .i64 s) ∧ w10.cell? ⟨rb, 3, none⟩ = some (.int .i64 c) := by assumption
    refine exit_world (fun ω => Below w.heap.size w ω ∧ TsAt t r s c S g8.n (fun i => g8.fb i 2) 0 g8 ω ∧ rb < ω.heap.size ∧ ω.cell? ⟨rb, 0, none⟩ = some (.int .i64 t) ∧ ω.cell? ⟨rb, 1, none⟩ = some (.int .i64 r) ∧ ω.cell? ⟨rb, 2, none⟩ = some (.int .i64 s) ∧ ω.cell? ⟨rb, 3, none⟩ = some (.int .i64 c)) ⟨hB9.trans (hH.1.mono (by omega)), hA8.below hH.1, by have := hH.1.size; omega, hH.2⟩ ?_
    rintro w11 ⟨hB11, hA11, hs11, p0, p1, p2, p3⟩
    go_upto_region 11 with (first | (go_at_call 125; ((with_reducible refine (topSharedS t r s c S g8.n (fun i => g8.fb i 2) 0 g8 _ hA11 (by omega) bS).mono ?_); rintro e w12 ⟨⟨g9, rfl, hA12, hT12⟩, hb12⟩; rw [hlo, hhi] at hT12; have hz12 := hb12.size)) | (go_at_call 93; ((with_reducible refine (sumOfS hA12 hT12 (Below.refl _ _)).mono ?_); rintro e w13 ⟨rfl, hb13⟩; have hz13 := hb13.size)) | (go_at_call 51; ((with_reducible refine (refClip_le S lo hi _ hlh).mono ?_); rintro e w14 ⟨rfl, rfl⟩)) | fail)
    refine wp_world (fun ω => Below w.heap.size w ω ∧ TsAt t r s c S g8.n (fun i => g8.fb i 2) 1 g9 ω ∧ rb < ω.heap.size ∧ ω.cell? ⟨rb, 0, none⟩ = some (.int .i64 t) ∧ ω.cell? ⟨rb, 1, none⟩ = some (.int .i64 r) ∧ ω.cell? ⟨rb, 2, none⟩ = some (.int .i64 s) ∧ ω.cell? ⟨rb, 3, none⟩ = some (.int .i64 c)) ⟨by (repeat' (first | (with_reducible exact Below.refl _ _) | (with_reducible assumption) | (with_reducible refine Below.alloc ?_ ?_ _) | (with_reducible refine Below.drew ?_) | (with_reducible refine below_drewN ?_ _) | (with_reducible refine Below.setCell ?_ ?_ _) | (with_reducible refine Below.trans ?_ (Below.mono (by assumption) ?_)) | omega | (simp; omega) | (simp; done))), hA12.below hb13, by omega, cell_below hb13 (by show rb < _; omega) (cell_below hb12 hs11 p0), cell_below hb13 (by show rb < _; omega) (cell_below hb12 hs11 p1), cell_below hb13 (by show rb < _; omega) (cell_below hb12 hs11 p2), cell_below hb13 (by show rb < _; omega) (cell_below hb12 hs11 p3)⟩ ?_
    clear p0 p1 p2 p3 hA11 hA12 hT12 hb12 hb13 hz12 hz13 hA8
    rintro w15 ⟨hB15, hA15, hs15, p0, p1, p2, p3⟩
    obtain ⟨q, htd, hqe, hq1, hq2⟩ := ts_q t1 t2 r1 r2
    obtain ⟨F, hF⟩ : ∃ F : Nat, 4 * q + 2 = (F : Int) := ⟨(4 * q + 2).toNat, by omega⟩
    have u1 : IntKind.wrap .i64 (2 * t) = 2 * t := IntWalk.i64_in _ ⟨by omega, by omega⟩
    have u2 : IntKind.wrap .i64 (2 * t + r) = 2 * t + r := IntWalk.i64_in _ ⟨by omega, by omega⟩
    have u3 : IntKind.wrap .i64 (2 * t + r - 1) = 2 * t + r - 1 := IntWalk.i64_in _ ⟨by omega, by omega⟩
    have u4 : IntKind.wrap .i64 q = q := IntWalk.i64_in _ ⟨by omega, by omega⟩
    have u5 : IntKind.wrap .i64 (4 * q) = 4 * q := IntWalk.i64_in _ ⟨by omega, by omega⟩
    have u6 : IntKind.wrap .i64 (4 * q + 2) = (F : Int) := by rw [hF]; exact IntWalk.i64_in _ ⟨by omega, by omega⟩
    have hr0 : r ≠ 0 := by omega
    have HF := Lib.hid hF
    have HQ := Lib.hid hqe
    have hFb : F ≤ 12002 := by omega
    clear hF hqe
    go_wp2_with fail
    clear u1 u2 u3 u4 u5 u6 htd
    have hm8' := hA15.bd
    generalize (fun i => g8.fb i 2) = o8 at *
    generalize g8.n = N at *
    go_loopw [12, 13, 15] (fun v okv i wr => ∃ (k : Nat) (g' : GD), k ≤ F ∧ k ≤ 1000 ∧ i = .int .i64 k ∧ okv = .bool true ∧ v = .slice g'.A g'.n g'.c ∧ TsAt t r s c S N o8 (k + 1) g' wr ∧ Below w15.heap.size w15 wr) (fun _ _ i _ => 1000 - (intOf i).toNat)
    case atStart => exact ⟨0, g9, Nat.zero_le _, Nat.zero_le _, rfl, rfl, rfl, hA15, Below.refl _ _⟩
    case round =>
      obtain ⟨k, g', hk1, hk2, rfl, rfl, rfl, hA, hbw⟩ := hrel
      have hsz := hbw.size
      have q0 := (hbw.cell (p := ⟨rb, 0, none⟩) hs15).trans p0
      have q1 := (hbw.cell (p := ⟨rb, 1, none⟩) hs15).trans p1
      have q2 := (hbw.cell (p := ⟨rb, 2, none⟩) hs15).trans p2
      have q3 := (hbw.cell (p := ⟨rb, 3, none⟩) hs15).trans p3
      clear p0 p1 p2 p3 hA15
      by_cases c1' : k < F
      · by_cases c2' : k < 1000
        · go_wp2_with (first | (go_at_call 125; ((with_reducible refine (topSharedS t r s c S N o8 (k + 1) g' _ hA (by omega) bS).mono ?_); rintro e w16 ⟨⟨g'', rfl, hA16, _⟩, hb16⟩; have hz16 := hb16.size)) | fail)
          go_roundw
          case rel => exact ⟨k + 1, g'', by omega, by omega, by go_num, rfl, rfl, by push_cast; exact hA16, by (repeat' (first | (with_reducible exact Below.refl _ _) | (with_reducible assumption) | (with_reducible refine Below.alloc ?_ ?_ _) | (with_reducible refine Below.drew ?_) | (with_reducible refine below_drewN ?_ _) | (with_reducible refine Below.setCell ?_ ?_ _) | (with_reducible refine Below.trans ?_ (Below.mono (by assumption) ?_)) | omega | (simp; omega) | (simp; done)))⟩
          case measure => simp [intOf]; omega
        · have hF2 : 1000 < F := by omega
          go_wp2_with fail
          go_ret
          exact ⟨rfl, by (repeat' (first | (with_reducible exact Below.refl _ _) | (with_reducible assumption) | (with_reducible refine Below.alloc ?_ ?_ _) | (with_reducible refine Below.drew ?_) | (with_reducible refine below_drewN ?_ _) | (with_reducible refine Below.setCell ?_ ?_ _) | (with_reducible refine Below.trans ?_ (Below.mono (by assumption) ?_)) | omega | (simp; omega) | (simp; done)))⟩
      · have hkF : k = F := by omega
        subst hkF
        obtain ⟨hd1, hd2⟩ := hA.done (by rw [HQ.out, HF.out])
        obtain ⟨n1, n4, hbd⟩ := hA.bd
        have hnN := hA.n
        subst hnN
        obtain ⟨bl, off, eA, hbl, hrow⟩ := gd_row3 hA.ok hA.ks (by omega)
        have HW := Lib.hid hrow
        have HB := Lib.hid hbd
        have HA := Lib.hid hA
        have HD1 := Lib.hid hd1
        have HD2 := Lib.hid hd2
        have HE := Lib.hid eA
        rw [eA]
        clear hrow hbd hA hd1 hd2 eA
        obtain ⟨wo, rfl⟩ : ∃ x : World, x = wr := ⟨_, rfl⟩
        obtain ⟨X, hX⟩ : ∃ X : Nat → Int, Hid (∀ i, X i = g'.fi i 0) := ⟨fun i => g'.fi i 0, fun _ => rfl⟩
        obtain ⟨O, hO⟩ : ∃ O : Nat → Bool, Hid (∀ i, O i = g'.fb i 2) := ⟨fun i => g'.fb i 2, fun _ => rfl⟩
        go_wp2_with fail
        go_loopw [16, 17, 18, 19] (fun a l h i wq => ∃ (j : Nat) (lv hv : Int), j ≤ g'.n ∧ i = .int .i64 j ∧ a = .int .i64 (tsIn O j) ∧ l = .int .i64 lv ∧ h = .int .i64 hv ∧ Hid (TsMm X O j lv hv) ∧ Below wo.heap.size wo wq) (fun _ _ _ i _ => g'.n - (intOf i).toNat)
        case atStart => exact ⟨0, _, _, Nat.zero_le _, rfl, rfl, rfl, rfl, .inl ⟨rfl, rfl, rfl⟩, Below.refl _ _⟩
        case round =>
          obtain ⟨j, lv, hv, hj, rfl, rfl, rfl, rfl, hmm, hbq⟩ := hrel
          have hsq := hbq.size
          have bIn := ts_ins_bd O j
          obtain ⟨v1, v2, v3, v4⟩ := hmm.out.bd hj (fun i hi => by rw [hX.out]; exact HB.out i hi)
          by_cases hlt : j < g'.n
          · have HC := HW.out j hlt
            have e0 : wr.cell? ⟨bl, off + j * 3, none⟩ = _ := (hbq.cell (p := ⟨bl, _, none⟩) hbl).trans HC.1
            have e2 : wr.cell? ⟨bl, off + j * 3 + 2, none⟩ = _ := (hbq.cell (p := ⟨bl, _, none⟩) hbl).trans HC.2.2
            clear HC
            have hxb := HB.out j hlt
            have x1 := Lib.hid (hX.out j)
            have x2 := Lib.hid (hO.out j)
            have x3 : Hid (O j = false → tsIn O (j + 1) = tsIn O j + 1) := fun h => by simp [tsIn, h]
            have x4 : Hid (O j = true → tsIn O (j + 1) = tsIn O j) := fun h => by simp [tsIn, h]
            generalize g'.fi j 0 = f0 at *
            cases ho : g'.fb j 2
            · rw [ho] at e2
              have y1 : Hid (tsIn O (j + 1) = tsIn O j + 1) := x3.out (x2.out.trans ho)
              obtain ⟨mn, hmn⟩ : ∃ v, min lv f0 = v := ⟨_, rfl⟩
              obtain ⟨mx, hmx⟩ : ∃ v, max hv f0 = v := ⟨_, rfl⟩
              have hM := Lib.hid (hmm.out.step (x2.out.trans ho) (by rw [x1.out]; exact hxb))
              rw [x1.out, hmn, hmx] at hM
              have rmn := fun ts t w => run_min_is lv f0 mn hmn.symm ts t w
              have rmx := fun ts t w => run_max_is hv f0 mx hmx.symm ts t w
              clear hmn hmx ho x1 x2 x3 x4 hmm
              generalize tsIn O j = a at *
              have hwa : IntKind.wrap .i64 (a + 1) = a + 1 := IntWalk.i64_in _ ⟨by omega, by omega⟩
              go_upto_region 24 with fail
              go_region
              go_wp2_with fail
              go_roundw
              case rel => exact ⟨j + 1, mn, mx, by omega, by go_num, by rw [y1.out], rfl, rfl, hM.out, by (repeat' (first | (with_reducible exact Below.refl _ _) | (with_reducible assumption) | (with_reducible refine Below.alloc ?_ ?_ _) | (with_reducible refine Below.drew ?_) | (with_reducible refine below_drewN ?_ _) | (with_reducible refine Below.setCell ?_ ?_ _) | (with_reducible refine Below.trans ?_ (Below.mono (by assumption) ?_)) | omega | (simp; omega) | (simp; done)))⟩
              case measure => simp [intOf]; omega
            · rw [ho] at e2
              have y1 : Hid (tsIn O (j + 1) = tsIn O j) := x4.out (x2.out.trans ho)
              have hM := Lib.hid (hmm.out.skip (x2.out.trans ho))
              clear ho x1 x2 x3 x4 hmm
              generalize tsIn O j = a at *
              go_wp2_with fail
              go_roundw
              case rel => exact ⟨j + 1, lv, hv, by omega, by go_num, by rw [y1.out], rfl, rfl, hM.out, hbq⟩
              case measure => simp [intOf]; omega
          · have hjn : j = g'.n := by omega
            subst hjn
            have hlr : rb < wo.heap.size := by omega
            have t0 := (hbq.cell (p := ⟨rb, 0, none⟩) hlr).trans q0
            have hlr2 : rb < wr.heap.size := by omega
            have HO := Lib.hid (ts_in_congr (o := fun i => g'.fb i 2) (o' := O) g'.n (fun i _ => (hO.out i).symm))
            obtain ⟨P, hP⟩ : ∃ P, tsIn O g'.n * t = P := ⟨_, rfl⟩
            have HT : Hid (tsTot (fun i => g'.fi i 0) g'.n = pclip S (-P) P) := by
              rw [← pclip_min S (-P) P (by have := Int.mul_nonneg bIn.1 (show 0 ≤ t by omega); omega), ← hP]
              refine HD1.out.trans ?_
              unfold tsGoal
              rw [HO.out]
            have hP0 : 0 ≤ P := by rw [← hP]; exact Int.mul_nonneg bIn.1 (by omega)
            have hP1 : P ≤ 4000 := by
              have h1 := Int.mul_le_mul_of_nonneg_right (show tsIn O g'.n ≤ 4 by omega) (show 0 ≤ t by omega)
              omega
            have HS : Hid (∀ w1 : World, Below wo.heap.size wo w1 → Calls Try.prog 93 #[.slice (some ⟨bl, off, none⟩) g'.n g'.c] w1 fun e w' => e = .returned (.int .i64 (pclip S (-P) P)) ∧ Below w1.heap.size w1 w') := by
              rw [← HE.out]
              exact fun w1 hb => sumOfS HA.out HT.out hb
            have HL : Hid (0 < tsIn O g'.n → hv - lv ≤ 1) := fun hpos => by
              rcases hmm.out with ⟨h1, _⟩ | ⟨_, i1, i2, hi1, hi2, o1, o2, rfl, rfl⟩
              · omega
              · rw [hX.out, hX.out]
                exact HD2.out i2 i1 hi2 hi1 ((hO.out i2).symm.trans o2) ((hO.out i1).symm.trans o1)
            clear HD1 HD2 HE HO HT HA HB HW hX hmm
            generalize tsIn O g'.n = a at *
            go_upto_region 25 with fail
            by_cases ha : a = 0
            · subst ha
              clear HL HS
              go_region
              go_wp2
              go_ret
              exact ⟨rfl, by (repeat' (first | (with_reducible exact Below.refl _ _) | (with_reducible assumption) | (with_reducible refine Below.alloc ?_ ?_ _) | (with_reducible refine Below.drew ?_) | (with_reducible refine below_drewN ?_ _) | (with_reducible refine Below.setCell ?_ ?_ _) | (with_reducible refine Below.trans ?_ (Below.mono (by assumption) ?_)) | omega | (simp; omega) | (simp; done)))⟩
            · have hle := HL.out (by omega)
              have cd3 : (a == 0) = false := by simp [ha]
              have cd2 : decide (hv - lv ≤ 1) = true := decide_eq_true hle
              clear ha
              have hsub : IntKind.wrap .i64 (hv - lv) = hv - lv := IntWalk.i64_in _ ⟨by omega, by omega⟩
              have hw1 : IntKind.wrap .i64 (a * t) = P := by rw [hP]; exact IntWalk.i64_in _ ⟨by omega, by omega⟩
              have hw2 : IntKind.wrap .i64 (-a) = -a := IntWalk.i64_in _ ⟨by omega, by omega⟩
              have hw3 : IntKind.wrap .i64 (-a * t) = -P := by rw [Int.neg_mul, hP]; exact IntWalk.i64_in _ ⟨by omega, by omega⟩
              clear hP HL
              go_region_held3 (fun ω => ω.cell? ⟨rb, 0, none⟩ = some (.int .i64 t)) ((repeat' (first | (with_reducible assumption) | (with_reducible refine cell_alloc_keep ?_) | (with_reducible refine cell_drew_keep ?_) | (with_reducible refine cell_drewN_keep ?_) | (with_reducible refine cell_grown (by with_reducible assumption) ?_ hrd) | (with_reducible refine cell_below (by assumption) ?_ ?_) | omega | (simp; done) | (simp; omega)))) (first | (go_at_call 93; ((with_reducible refine (HS.out _ (by (repeat' (first | (with_reducible exact Below.refl _ _) | (with_reducible assumption) | (with_reducible refine Below.alloc ?_ ?_ _) | (with_reducible refine Below.drew ?_) | (with_reducible refine below_drewN ?_ _) | (with_reducible refine Below.setCell ?_ ?_ _) | (with_reducible refine Below.trans ?_ (Below.mono (by assumption) ?_)) | omega | (simp; omega) | (simp; done))))).mono ?_); rintro e w17 ⟨rfl, hb17⟩; have hz17 := hb17.size; (repeat (first | simp only [World.size_alloc] at hz17 | simp only [World.size_drew] at hz17)))) | (go_at_call 51; ((with_reducible refine (refClip_le S (-P) P _ (by omega)).mono ?_); rintro e w18 ⟨rfl, rfl⟩)) | fail)
              go_wp2
              go_ret
              exact ⟨rfl, by (repeat' (first | (with_reducible exact Below.refl _ _) | (with_reducible assumption) | (with_reducible refine Below.alloc ?_ ?_ _) | (with_reducible refine Below.drew ?_) | (with_reducible refine below_drewN ?_ _) | (with_reducible refine Below.setCell ?_ ?_ _) | (with_reducible refine Below.trans ?_ (Below.mono (by assumption) ?_)) | omega | (simp; omega) | (simp; done)))⟩

end Go.Proofs.Ytdfpenjhpemokaa.Sx
namespace Go.Proofs.Ytdfpenjhpemokaa
open Go.ChangeShapes Go.WideShapes Go.ChangeAt Go.Deep Go.RowKit in
set_option maxRecDepth 100000 in
theorem walkTopShare {H : Type} (W : World) (base : Nat) (enc : TypeId × Value → H) (v0 v1 v2 : Value) {d0 d1 d2 : DataW H} {p0 p1 p2 : List MemPlace}
    (k0 : Value.okWide Try.prog W .any base 78 v0) (k1 : Value.okWide Try.prog W .any base 3 v1) (k2 : Value.okWide Try.prog W .any base 3 v2)
    (h0 : DataW.Trod enc Try.prog W 0 (fun _ => true) true 78 v0 d0 p0) (_ : DataW.Trod enc Try.prog W 0 (fun _ => true) true 3 v1 d1 p1) (_ : DataW.Trod enc Try.prog W 0 (fun _ => true) true 3 v2 d2 p2) :
    Calls Try.prog 28 #[v0, v1, v2] W fun e W' => e = .returned (.bool true) ∧ Below W.heap.size W W' := by
  obtain ⟨g, hk, rfl, o⟩ := Sx.given_flat [true] (by decide) Try.underlying78 (by kernel_rfl) (by kernel_rfl) k0 h0
  obtain ⟨x, rfl, ex⟩ := okWide_int Try.underlying3 k1
  obtain ⟨y, rfl, ey⟩ := okWide_int Try.underlying3 k2
  exact Sx.topShare_true g hk x y ex ey W o
end Go.Proofs.Ytdfpenjhpemokaa
