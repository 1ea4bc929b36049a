/-
  R.ActRule and R.ServosFrom: contracts.
-/
import Derived.Test.YtdfpenjhpemokaaCraft
import Derived.Deep.DeepCutAuto
set_option linter.unusedVariables false
set_option linter.unusedSimpArgs false
namespace Go.Proofs.Ytdfpenjhpemokaa.Sx
open Go.RowKit
set_option maxRecDepth 100000 in
set_option maxHeartbeats 1000000 in
theorem refActRule (x : Ax) (w : World) :
    Calls Try.prog 94 #[.agg x.cells.toArray] w fun e w' => e = .returned (.agg #[.int .i64 x.tr, .int .i64 x.ra, .int .i64 x.sl, .int .i64 x.wa]) ∧ Below w.heap.size w w' := by
  obtain ⟨lo, hi, no, pu, su, tr, ra, sl, li, co, wa, tu, bu, pA, pI⟩ := x
  show Calls _ _ #[.agg #[.int .i64 lo, .int .i64 hi, .int .i64 no, .int .i64 pu, .int .i64 su, .int .i64 tr, .int .i64 ra, .int .i64 sl, .int .i64 li, .int .i64 co, .int .i64 wa, .int .i64 tu, .slice (some ⟨pA, 0, none⟩) 2 2, .slice (some ⟨pI, 0, none⟩) 2 2, .int .i64 bu]] w _
  go_enter Try.func94, Try.ntmps94
  go_wp2_with fail
  refine bodyPost_ret (v := .agg #[.int .i64 tr, .int .i64 ra, .int .i64 sl, .int .i64 wa]) ?_ rfl ⟨rfl, by (repeat' (first | (with_reducible exact Below.refl _ _) | (with_reducible assumption) | (with_reducible refine Below.alloc ?_ ?_ _) | (with_reducible refine Below.drew ?_) | (with_reducible refine below_drewN ?_ _) | (with_reducible refine Below.setCell ?_ ?_ _) | (with_reducible refine Below.trans ?_ (Below.mono (by assumption) ?_)) | omega | (simp; omega) | (simp; done)))⟩
  simp [results, Try.results94, go_sem]
theorem infoServo : (Try.prog.info? 55).map (fun i => (i.zero, i.size, i.bytes)) = some (some (.agg #[.int .i64 0, .int .i64 0, .bool false]), 3, 24) := by kernel_rfl
theorem ownsRow_low {w : World} {base base' : Nat} {e : TypeId} {size : Nat} {v : Value} {n : Nat} {xs : List Value} (h : w.ownsRow base e size v n xs) (hb : base' ≤ base) : w.ownsRow base' e size v n xs := by
  obtain ⟨h1, h2⟩ := h
  refine ⟨h1, ?_⟩
  rcases h2 with h2 | ⟨g, cap, cur, a1, a2, a3⟩
  · exact .inl h2
  · exact .inr ⟨g, cap, cur, a1, Nat.le_trans hb a2, a3⟩
theorem row3 {w : World} {b : Nat} {t : TypeId} {f : Nat → Value} (h : w.rowIs b t 3 f) (x y z : Value) : (((w.setCell ⟨b, 0, none⟩ x).setCell ⟨b, 1, none⟩ y).setCell ⟨b, 2, none⟩ z).rowIs b t 3 (axv [x, y, z]) :=
  (((h.set 0 x).set 1 y).set 2 z).congr (fun j hj => by
    match j, hj with
    | 0, _ => rfl
    | 1, _ => rfl
    | 2, _ => rfl)
theorem ownsRow_grown {w w' : World} {d base : Nat} {e : TypeId} {size : Nat} {v : Value} {n : Nat} {xs : List Value} (h : w.ownsRow base e size v n xs) (hg : w.grownBy w' (some d)) (hd : d < base) : w'.ownsRow base e size v n xs := by
  obtain ⟨h1, h2⟩ := h
  refine ⟨h1, ?_⟩
  rcases h2 with h2 | ⟨g, cap, cur, hv, hb, hh, r⟩
  · exact .inl h2
  · exact .inr ⟨g, cap, cur, hv, hb, by rw [hg.block g (Array.getElem?_eq_some_iff.1 hh).1 (fun e => by cases e; omega)]; exact hh, r⟩
theorem grown_own {w w1 w2 : World} {d : Nat} {r : Option Nat} (h : w.grownBy w1 (some d)) (hg : w1.grownBy w2 r) (hr : ∀ q, r = some q → w.heap.size ≤ q) : w.grownBy w2 (some d) :=
  ⟨hg.os.trans h.os, hg.tape.trans h.tape, hg.output.trans h.output, Nat.le_trans h.size hg.size, fun k hk hne => (hg.block k (Nat.lt_of_lt_of_le hk h.size) (fun e => by have := hr k e.symm; omega)).trans (h.block k hk hne)⟩
theorem DiceOk.far {w w' : World} {d : Nat} {g : GD} {a : Int} (h : DiceOk w d g a) {r : Option Nat} (hg : w.grownBy w' r) (hd : ∀ q, r = some q → d < q) (hr : ∀ bl off s, g.A = some ⟨bl, off, s⟩ → 0 < g.n → ∀ q, r = some q → bl < q) : DiceOk w' d g a := by
  have hne : some d ≠ r := fun e => absurd (hd d e.symm) (by omega)
  have hok : g.ok w' := by
    cases r with
    | none => exact gd_grown (d := w.heap.size) h.ok ⟨hg.os, hg.tape, hg.output, hg.size, fun k hk _ => hg.block k hk (by simp)⟩ (fun bl off s e hn => by have := h.raw bl off s e hn; omega)
    | some q => exact gd_grown h.ok hg (fun bl off s e hn => by have := hr bl off s e hn q rfl; omega)
  exact ⟨hg.cell h.c0 hne, hg.cell h.c1 hne, fun o => (hg.frozen_far ⟨d, o, none⟩ h.lt hne).trans (h.f o), Nat.lt_of_lt_of_le h.lt hg.size, hok, h.ne, h.ks, h.n⟩
def svL (L : List (Int × Int × Bool)) : List Value := L.flatMap fun s => [.int .i64 s.1, .int .i64 s.2.1, .bool s.2.2]
theorem svL_snoc (L : List (Int × Int × Bool)) (s : Int × Int × Bool) : svL (L ++ [s]) = svL L ++ [.int .i64 s.1, .int .i64 s.2.1, .bool s.2.2] := by simp [svL]
def SvFine (t c : Int) (s : Int × Int × Bool) : Prop := -t ≤ s.1 ∧ s.1 ≤ t ∧ 0 ≤ s.2.1 ∧ s.2.1 ≤ c ∧ (s.2.2 = true → s.1 = 0) ∧ (s.2.2 = false → s.2.1 < c)
set_option maxRecDepth 100000 in
set_option maxHeartbeats 2000000 in
theorem servosFrom (d : Nat) (g : GD) (a t r s c : Int) (m : Nat) (w : World) (h : DiceOk w d g a) (a0 : 0 ≤ a) (a1 : a ≤ 1000) (hm : m ≤ 4) (t1 : 1 ≤ t) (t2 : t ≤ 1000) (c1 : 1 ≤ c) (c2 : c ≤ 10) :
    Calls Try.prog 95 #[.pointer (some ⟨d, 0, none⟩), .agg #[.int .i64 t, .int .i64 r, .int .i64 s, .int .i64 c], .int .i64 m] w fun e w' => ∃ (v : Value) (L : List (Int × Int × Bool)), e = .returned v ∧ L.length = m ∧ (∀ x ∈ L, SvFine t c x) ∧ w'.ownsRow w.heap.size 55 3 v m (svL L) ∧ w.grownBy w' (some d) ∧ ∃ a', DiceOk w' d g a' ∧ 0 ≤ a' ∧ a' ≤ a + 4 * m := by
  have hdl := h.lt
  have HD := Lib.hid h
  have hraw := h.raw
  clear h
  obtain ⟨i0, hif, hza, hzb, hzc⟩ := info_parts infoServo
  go_enter Try.func95, Try.ntmps95
  go_wp2_with fail
  go_loopw [7, 8] (fun v i wr => ∃ (k : Nat) (L : List (Int × Int × Bool)), k ≤ m ∧ i = .int .i64 k ∧ L.length = k ∧ Hid (∀ x ∈ L, SvFine t c x) ∧ wr.ownsRow (w.heap.size + 1) 55 3 v k (svL L) ∧ w.grownBy wr (some d) ∧ (∃ a', DiceOk wr d g a' ∧ 0 ≤ a' ∧ a' ≤ a + 4 * k) ∧ w.heap.size < wr.heap.size ∧ wr.cell? ⟨w.heap.size, 0, none⟩ = some (.int .i64 t) ∧ wr.cell? ⟨w.heap.size, 3, none⟩ = some (.int .i64 c)) (fun _ i _ => m - (intOf i).toNat)
  case atStart => exact ⟨0, [], Nat.zero_le _, rfl, rfl, (fun x hx => nomatch hx), World.ownsRow_nil _ _ _ _, World.grownBy_alloc _ _ _, ⟨a, HD.out.alloc _, a0, by omega⟩, by simp, World.cell?_alloc_mark w _ _ _ 0, World.cell?_alloc_mark w _ _ _ 3⟩
  case round =>
    obtain ⟨k, L, hkm, rfl, hLk, hL, hown, hG, ⟨ak, hD, p1, p2⟩, hs, k0, k3⟩ := hrel
    by_cases hlt : k < m
    · go_upto_region 5 with fail
      have h2t : IntKind.wrap .i64 (2 * t) = 2 * t := IntWalk.i64_in _ ⟨by omega, by omega⟩
      have h2t1 : IntKind.wrap .i64 (2 * t + 1) = 2 * t + 1 := IntWalk.i64_in _ ⟨by omega, by omega⟩
      have hwd : w.heap.size ≠ d := by omega
      have hsz : wr.heap.size ≠ d := by omega
      go_cut [9] (fun s9 ω => ∃ (b : Nat) (va vb : Int), s9 = .pointer (some ⟨b, 0, none⟩) ∧ -t ≤ va ∧ va ≤ t ∧ 0 ≤ vb ∧ vb < c ∧ wr.heap.size ≤ b ∧ ω.rowIs b 55 3 (axv [.int .i64 va, .int .i64 vb, .bool false]) ∧ wr.grownBy ω (some d) ∧ DiceOk ω d g (ak + 1 + 1))
      case first =>
        rename_i J' K' hJ' hK'
        go_region_held3 (fun ω => ω.cell? ⟨w.heap.size, 0, none⟩ = some (.int .i64 t) ∧ ω.cell? ⟨w.heap.size, 3, none⟩ = some (.int .i64 c)) (refine ⟨?_, ?_⟩ <;> (repeat' (first | (with_reducible assumption) | (with_reducible refine cell_alloc_keep ?_) | (with_reducible refine cell_drew_keep ?_) | (with_reducible refine cell_drewN_keep ?_) | (with_reducible refine cell_grown (by with_reducible assumption) ?_ hwd) | ((with_reducible refine cell_set_blk ?_ ?_) <;> (first | (with_reducible assumption) | omega | skip))))) (first | (go_at_call 115; ((with_reducible refine (diceN _ _ _ (2 * t + 1) _ hD.drew (by omega) (by omega) (by omega) (by omega)).mono ?_); rintro e w5a ⟨va, rfl, hva, hua, hda, hga⟩; have hws : IntKind.wrap .i64 (va - t) = va - t := IntWalk.i64_in _ ⟨by omega, by omega⟩; have hza := hga.size; (repeat (first | simp only [World.size_alloc] at hza | simp only [World.size_drew] at hza | simp only [World.size_setCell] at hza)))) | (go_at_call 115; ((with_reducible refine (diceN _ _ _ (2 * t + 1) _ (hD.alloc _).drew (by omega) (by omega) (by omega) (by omega)).mono ?_); rintro e w5a ⟨va, rfl, hva, hua, hda, hga⟩; have hws : IntKind.wrap .i64 (va - t) = va - t := IntWalk.i64_in _ ⟨by omega, by omega⟩; have hR := rowIs_grown (World.rowIs.drew (row_new wr [.int .i64 0, .int .i64 0, .bool false] _)) hga hsz; have hza := hga.size; (repeat (first | simp only [World.size_alloc] at hza | simp only [World.size_drew] at hza | simp only [World.size_setCell] at hza)))) | (go_at_call 115; ((with_reducible refine (diceN _ _ _ c _ (hda.alloc _) (by omega) (by omega) (by omega) (by omega)).mono ?_); rintro e w5b ⟨vb, rfl, hvb, hub, hdb, hgb⟩; have hR := rowIs_grown (row_new w5a [.int .i64 0, .int .i64 0, .bool false] _) hgb (by omega); have z0 : w5b.cell? ⟨_, 0, none⟩ = some (.int .i64 0) := hR.cell (i := 0) (by decide); have z1 : w5b.cell? ⟨_, 1, none⟩ = some (.int .i64 0) := hR.cell (i := 1) (by decide); have z2 : w5b.cell? ⟨_, 2, none⟩ = some (.bool false) := hR.cell (i := 2) (by decide); have zf := hR.frozen; have hzb := hgb.size; (repeat (first | simp only [World.size_alloc] at hzb | simp only [World.size_drew] at hzb | simp only [World.size_setCell] at hzb)))) | (go_at_call 115; ((with_reducible refine (diceN _ _ _ c _ hda (by omega) (by omega) (by omega) (by omega)).mono ?_); rintro e w5b ⟨vb, rfl, hvb, hub, hdb, hgb⟩; (try (have hR := rowIs_grown hR hgb hsz; have z0 : w5b.cell? ⟨_, 0, none⟩ = some (.int .i64 0) := hR.cell (i := 0) (by decide); have z1 : w5b.cell? ⟨_, 1, none⟩ = some (.int .i64 0) := hR.cell (i := 1) (by decide); have z2 : w5b.cell? ⟨_, 2, none⟩ = some (.bool false) := hR.cell (i := 2) (by decide); have zf := hR.frozen)); have hzb := hgb.size; (repeat (first | simp only [World.size_alloc] at hzb | simp only [World.size_drew] at hzb | simp only [World.size_setCell] at hzb)))) | fail)
        all_goals (refine hK' _ _ (Met.intro (hJ' _ _ ?_)); (repeat apply Exists.intro); refine ⟨?_, rfl⟩)
        all_goals exact ⟨_, va - t, vb, rfl, by omega, by omega, by omega, by omega, by omega, by (repeat' (first | (exact row3 hR _ _ _) | (with_reducible assumption) | (with_reducible refine World.rowIs.drew ?_) | (with_reducible refine row_put15 ?_ _ _ rfl (by decide)) | (with_reducible exact row_new _ [.int .i64 0, .int .i64 0, .bool false] _) | (exact row_new _ [.int .i64 (va - t), .int .i64 vb, .bool false] _) | (with_reducible refine World.rowIs.alloc ?_ _))), by (repeat' (first | (with_reducible exact World.grownBy.refl _ _) | (with_reducible assumption) | (with_reducible refine grown_alloc ?_ _) | (with_reducible refine grown_drew ?_) | ((with_reducible refine grown_setn ?_ ?_ _ _) <;> (first | omega | skip)) | (with_reducible refine World.grownBy.trans ?_ (by with_reducible assumption)))), by (repeat' (first | (with_reducible assumption) | (with_reducible refine DiceOk.alloc ?_ _) | (with_reducible refine DiceOk.drew ?_) | ((with_reducible refine DiceOk.set ?_ (by omega) (fun bl off s e hn => by have := hraw bl off s e hn; omega)))))⟩
      obtain ⟨b, va, vb, rfl, v1, v2, v3, v4, hb, hR, hg5, hd5⟩ := hcut
      obtain ⟨w5, rfl⟩ : ∃ x : World, x = wc := ⟨_, rfl⟩
      have c0 := cell_grown hg5 k0 hwd
      have c3 := cell_grown hg5 k3 hwd
      have hl5 := hR.lt
      have hs5 := hg5.size
      go_upto_if 31 with (first | (go_at_call 115; ((with_reducible refine (diceN _ _ _ 5 _ hd5 (by omega) (by omega) (by omega) (by omega)).mono ?_); rintro e w6 ⟨vc, rfl, hvc, huc, hd6, hg6⟩; have hz6 := hg6.size)) | fail)
      have hR6 := rowIs_grown hR hg6 (by omega)
      have c60 := cell_grown hg6 c0 hwd
      have c63 := cell_grown hg6 c3 hwd
      have hl6 := hR6.lt
      have hg56 := World.grownBy.trans hg5 hg6
      clear hR hg5 hd5 c0 c3 hl5 hg6
      have hcp : IntKind.wrap .i64 (c + 1) = c + 1 := IntWalk.i64_in _ ⟨by omega, by omega⟩
      have hbd : b ≠ d := by omega
      have hbr : ∀ bl off s, g.A = some ⟨bl, off, s⟩ → 0 < g.n → bl ≠ b := fun bl off s e hn => by have := hraw bl off s e hn; omega
      go_cut [] (fun ω => ∃ (ua ub : Int) (fl : Bool), SvFine t c (ua, ub, fl) ∧ ω.rowIs b 55 3 (axv [.int .i64 ua, .int .i64 ub, .bool fl]) ∧ wr.grownBy ω (some d) ∧ ∃ a', DiceOk ω d g a' ∧ 0 ≤ a' ∧ a' ≤ ak + 4)
      case first =>
        rename_i J' K' hJ' hK'
        by_cases hz0 : vc = 0
        · subst hz0
          have z0 : w6.cell? ⟨b, 0, none⟩ = some (.int .i64 va) := hR6.cell (i := 0) (by decide)
          have z1 : w6.cell? ⟨b, 1, none⟩ = some (.int .i64 vb) := hR6.cell (i := 1) (by decide)
          have z2 : w6.cell? ⟨b, 2, none⟩ = some (.bool false) := hR6.cell (i := 2) (by decide)
          have zf := hR6.frozen
          go_wp2_with (first | (go_at_call 115; ((with_reducible refine (diceN _ _ _ (c + 1) _ hd6 (by omega) (by omega) (by omega) (by omega)).mono ?_); rintro e w7 ⟨vd, rfl, hvd, hud, hd7, hg7⟩; have hz7 := hg7.size; have hR7 := rowIs_grown hR6 hg7 (by omega); have y0 : w7.cell? ⟨b, 0, none⟩ = some (.int .i64 va) := hR7.cell (i := 0) (by decide); have y1 : w7.cell? ⟨b, 1, none⟩ = some (.int .i64 vb) := hR7.cell (i := 1) (by decide); have y2 : w7.cell? ⟨b, 2, none⟩ = some (.bool false) := hR7.cell (i := 2) (by decide); have yf := hR7.frozen; clear z0 z1 z2 zf)) | fail)
          (refine Met.intro (hJ' _ _ ?_); (repeat apply Exists.intro); refine ⟨?_, rfl⟩)
          exact ⟨0, vd, true, ⟨by show -t ≤ (0 : Int); omega, by show (0 : Int) ≤ t; omega, by show 0 ≤ vd; omega, by show vd ≤ c; omega, (fun _ => rfl), (fun h => nomatch h)⟩, row3 hR7 _ _ _, by (repeat' (first | (with_reducible exact World.grownBy.refl _ _) | (with_reducible assumption) | (with_reducible refine grown_alloc ?_ _) | (with_reducible refine grown_drew ?_) | ((with_reducible refine grown_setn ?_ ?_ _ _) <;> (first | omega | skip)) | (with_reducible refine World.grownBy.trans ?_ (by with_reducible assumption)))), _, ((hd7.set hbd hbr).set hbd hbr).set hbd hbr, by omega, by omega⟩
        · go_wp2_with fail
          (refine Met.intro (hJ' _ _ ?_); (repeat apply Exists.intro); refine ⟨?_, rfl⟩)
          exact ⟨va, vb, false, ⟨by show -t ≤ va; omega, by show va ≤ t; omega, by show 0 ≤ vb; omega, by show vb ≤ c; omega, (fun h => nomatch h), (fun _ => by show vb < c; omega)⟩, hR6, hg56, _, hd6, by omega, by omega⟩
      clear hR6 c60 c63 hl6 hg56 hd6
      obtain ⟨ua, ub, fl, hsv, hR8, hg8, ad, hd8, ad1, ad2⟩ := hcut
      obtain ⟨w8, rfl⟩ : ∃ x : World, x = wc := ⟨_, rfl⟩
      have y0 : w8.cell? ⟨b, 0, none⟩ = some (.int .i64 ua) := hR8.cell (i := 0) (by decide)
      have y1 : w8.cell? ⟨b, 1, none⟩ = some (.int .i64 ub) := hR8.cell (i := 1) (by decide)
      have y2 : w8.cell? ⟨b, 2, none⟩ = some (.bool fl) := hR8.cell (i := 2) (by decide)
      have hown8 := ownsRow_grown hown hg8 (by omega)
      have c80 := cell_grown hg8 k0 hwd
      have c83 := cell_grown hg8 k3 hwd
      have hz8 := hg8.size
      have hsv' := Lib.hid hsv
      clear hsv hR8 k0 k3
      go_wp2_with (first | (at_builtin; go_loud (refine wpList_append_own _ rfl (.tmp 38) (.tmp 40) 132 rfl (w.heap.size + 1) 55 i0 (.agg #[.int .i64 0, .int .i64 0, .bool false]) 3 24 Try.underlying132 hif hza hzb hzc rfl (by decide) _ _ _ rfl (World.ownsRow.alloc hown8 _) ⟨w8.heap.size, 0, none⟩ 1 1 [.int .i64 ua, .int .i64 ub, .bool fl] rfl rfl ?c1 ?c2 ?c3 ?c4 ?c5 ?_)) | fail)
      case c1 =>
        intro j u hj
        match j, hj with
        | 0, hj => simp at hj; subst hj; simp [Addr.add]
        | 1, hj => simp at hj; subst hj; simp [Addr.add]
        | 2, hj => simp at hj; subst hj; simp [Addr.add]
      case c2 => intro u hu; simp at hu; rcases hu with rfl | rfl | rfl <;> rfl
      case c3 => unfold maxLen; omega
      case c4 => omega
      case c5 => simp; omega
      intro v' w9 hown9 hgrow9 _
      rw [← svL_snoc L (ua, ub, fl)] at hown9
      have hq : ∀ q, u7.ownBlock = some q → w.heap.size + 1 ≤ q := fun q hq => (hown.lt q hq).1
      have hG8 : w.grownBy w8 (some d) := World.grownBy.trans hG hg8
      have hG9 : w.grownBy w9 (some d) := grown_own (grown_alloc hG8 _) hgrow9 (fun q h => by have := hq q h; omega)
      have hd9 : DiceOk w9 d g ad := (hd8.alloc _).far hgrow9 (fun q h => by have := hq q h; omega) (fun bl off s e hn q h => by have := hq q h; have := hraw bl off s e hn; omega)
      have c90 := (hgrow9.cell (a := ⟨w.heap.size, 0, none⟩) (cell_alloc_keep c80) (fun e => by have := hq w.heap.size e.symm; omega))
      have c93 := (hgrow9.cell (a := ⟨w.heap.size, 3, none⟩) (cell_alloc_keep c83) (fun e => by have := hq w.heap.size e.symm; omega))
      have hz9 := hgrow9.size
      clear hgrow9 hown hown8 hg8 y0 y1 y2 c80 c83
      go_wp2
      go_roundw
      case rel =>
        refine ⟨k + 1, L ++ [(ua, ub, fl)], hlt, by go_num, by simp [hLk], ?_, hown9, hG9, ⟨ad, hd9, by omega, by omega⟩, by simp at hz9; omega, c90, c93⟩
        intro x hx
        rcases List.mem_append.1 hx with h | h
        · exact hL.out x h
        · rw [List.mem_singleton.1 h]; exact hsv'.out
      case measure => simp [intOf]; omega
    · have hkm : k = m := by omega
      subst hkm
      go_wp2_with fail
      go_ret
      exact ⟨_, L, rfl, hLk, hL.out, ownsRow_low hown (by omega), hG, ak, hD, p1, p2⟩
end Go.Proofs.Ytdfpenjhpemokaa.Sx
