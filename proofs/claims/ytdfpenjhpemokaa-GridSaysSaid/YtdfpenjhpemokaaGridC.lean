/-
  R.GridMay: the contract.
-/
import Derived.Test.YtdfpenjhpemokaaGridB
import Derived.Test.YtdfpenjhpemokaaFix2
set_option linter.unusedVariables false
set_option linter.unusedSimpArgs false
namespace Go.Proofs.Ytdfpenjhpemokaa.Sx
open Go.RowKit
def epg (g h : GD) (n : Nat) (R : Nat → GD) (k : Nat) : Int := por (prising g.f g.n) (por (prising h.f h.n) (if n ≠ g.n then 3 else prows h.n R k))
theorem epg_s {g h : GD} {n : Nat} {R : Nat → GD} {k : Nat} (hz : epg g h n R k = 0) : epg g h n R (k + 1) = prow h.n (R k) := by
  obtain ⟨e1, e2⟩ := por_0 hz
  obtain ⟨e2, e3⟩ := por_0 e2
  unfold epg por
  rw [if_pos e1, if_pos e2]
  by_cases hn : n ≠ g.n
  · rw [if_pos hn] at e3; exact absurd e3 (by decide)
  · rw [if_neg hn] at e3
    rw [if_neg hn]
    show por (prows h.n R k) _ = _
    rw [e3]
    rfl
theorem prows_stick {m : Nat} {R : Nat → GD} {k : Nat} (hz : prows m R k ≠ 0) : ∀ j, prows m R (k + j) = prows m R k
  | 0 => rfl
  | j + 1 => by
    show por (prows m R (k + j)) _ = _
    rw [prows_stick hz j]
    unfold por
    rw [if_neg hz]
theorem epg_stick {g h : GD} {n : Nat} {R : Nat → GD} {k : Nat} (hz : epg g h n R k ≠ 0) (hk : k ≤ n) : pgrid g h n R = epg g h n R k := by
  show por _ (por _ (if n ≠ g.n then 3 else prows h.n R n)) = por _ (por _ (if n ≠ g.n then 3 else prows h.n R k))
  by_cases e1 : prising g.f g.n = 0
  · by_cases e2 : prising h.f h.n = 0
    · by_cases e3 : n ≠ g.n
      · rw [if_pos e3, if_pos e3]
      · rw [if_neg e3, if_neg e3]
        have e4 : prows h.n R k ≠ 0 := fun h0 => hz (by unfold epg por; rw [if_pos e1, if_pos e2, if_neg e3, h0])
        have := prows_stick e4 (n - k)
        rw [show k + (n - k) = n by omega] at this
        rw [this]
    · unfold por
      rw [if_pos e1, if_pos e1, if_neg e2, if_neg e2]
  · unfold por
    rw [if_neg e1, if_neg e1]
theorem pfirst_row (m : Nat) (d : GD) : pfirst [pwhen ((d.n : Int) != m) 3, pworth d.f d.n] = prow m d := by
  unfold prow
  by_cases hn : d.n ≠ m
  · rw [if_pos hn, show ((d.n : Int) != m) = true from bne_iff_ne.2 (by omega)]
    rfl
  · rw [if_neg hn, show ((d.n : Int) != m) = false from bne_eq_false_iff_eq.2 (by omega)]
    show pfirst [0, pworth d.f d.n] = _
    rw [pfirst2]
    rfl
theorem pfirst3 (a b c : Int) : pfirst [a, b, c] = por a (por b c) := by
  unfold por
  simp only [pfirst]
  (repeat' split) <;> simp_all
theorem refFirst3_as (b c : Nat) (x y z k : Int) (w : World) (hc : ∀ i, i < 3 → w.cell? ⟨b, i, none⟩ = some (.int .i64 ([x, y, z][i]?.getD 0))) (h : Unit → k = por x (por y z)) : Calls Try.prog 39 #[.slice (some ⟨b, 0, none⟩) 3 c] w fun e w' => e = .returned (.int .i64 k) ∧ w = w' := by
  have := refFirst b c [x, y, z] 3 w rfl (by omega) hc
  rwa [pfirst3, ← h ()] at this
theorem refFirst2_as (b c : Nat) (x y k : Int) (w : World) (hc : ∀ i, i < 2 → w.cell? ⟨b, i, none⟩ = some (.int .i64 ([x, y][i]?.getD 0))) (h : Unit → pfirst [x, y] = k) : Calls Try.prog 39 #[.slice (some ⟨b, 0, none⟩) 2 c] w fun e w' => e = .returned (.int .i64 k) ∧ w = w' := by
  have := refFirst b c [x, y] 2 w rfl (by omega) hc
  rwa [h ()] at this
set_option maxRecDepth 100000 in
set_option maxHeartbeats 1000000 in
theorem refGridMay (g h : GD) (D : ND) (hk : g.ks = [true]) (hk' : h.ks = [true]) (hn : g.n ≤ 1000) (hn' : h.n ≤ 1000) (hD : D.n ≤ 1000) (hR : ∀ i, i < D.n → (D.g i).n ≤ 1000) (w : World) (o : g.ok w) (o' : h.ok w) (oD : D.ok w [true]) :
    Calls Try.prog 83 #[.agg #[.slice g.A g.n g.c, .slice h.A h.n h.c, .slice D.A D.n D.c]] w fun e w' => e = .returned (.int .i64 (pgrid g h D.n D.g)) ∧ Below w.heap.size w w' := by
  have T1 := Lib.hid fun (w1 : World) (hb : Below w.heap.size w w1) => refRising g hk hn w1 (gd_keep o hb)
  have T2 := Lib.hid fun (w1 : World) (hb : Below w.heap.size w w1) => refRising h hk' hn' w1 (gd_keep o' hb)
  have T3 := Lib.hid fun (i : Nat) (hi : i < D.n) (w1 : World) (hb : Below w.heap.size w w1) => refWorth (D.g i) (oD.g i).2 (hR i hi) w1 (gd_keep (oD.g i).1 hb)
  have E0 : Hid (epg g h D.n D.g 0 = por (prising g.f g.n) (por (prising h.f h.n) (pwhen ((D.n : Int) != g.n) 3))) := by
    unfold Hid epg pwhen
    by_cases hn : D.n ≠ g.n
    · rw [if_pos hn, if_pos (bne_iff_ne.2 (by omega))]
    · rw [if_neg hn, if_neg (fun hh => bne_iff_ne.1 hh (by omega))]; rfl
  have E1 : Hid (∀ k, epg g h D.n D.g k = 0 → pfirst [pwhen (((D.g k).n : Int) != h.n) 3, pworth (D.g k).f (D.g k).n] = epg g h D.n D.g (k + 1)) := fun k hz => (pfirst_row _ _).trans (epg_s hz).symm
  have E2 : Hid (∀ k, k ≤ D.n → epg g h D.n D.g k ≠ 0 → epg g h D.n D.g k = pgrid g h D.n D.g) := fun k hk hz => (epg_stick hz hk).symm
  have E3 : Hid (epg g h D.n D.g D.n = pgrid g h D.n D.g) := rfl
  have NR := Lib.hid fun (h0 : 0 < D.n) => nd_row oD h0
  have HR := Lib.hid hR
  clear o o' oD hk hk' hR
  generalize pgrid g h D.n D.g = pe at *
  generalize hE : epg g h D.n D.g = E at *
  clear hE
  generalize prising g.f g.n = r1 at *
  generalize prising h.f h.n = r2 at *
  generalize D.A = A at *
  generalize g.n = n1 at *
  generalize h.n = n2 at *
  generalize D.n = dn at *
  go_enter Try.func83, Try.ntmps83
  go_upto_region 1 with fail
  refine wp_world (fun ω => Below (w.heap.size + 1) (w.alloc (.cells #[.slice g.A n1 g.c, .slice h.A n2 h.c, .slice A dn D.c] 125)) ω) (Below.refl _ _) ?_
  rintro w1 hB1
  have hsz := hB1.size
  simp only [World.size_alloc] at hsz
  have hw0 : Below w.heap.size w w1 := ((Below.refl _ _).alloc (Nat.le_refl _) _).trans (hB1.mono (by omega))
  have d0 : w1.cell? ⟨w.heap.size, 0, none⟩ = some (.slice g.A n1 g.c) := hbox _ _ _ _ hB1 0
  have d1 : w1.cell? ⟨w.heap.size, 1, none⟩ = some (.slice h.A n2 h.c) := hbox _ _ _ _ hB1 1
  have d2 : w1.cell? ⟨w.heap.size, 2, none⟩ = some (.slice A dn D.c) := hbox _ _ _ _ hB1 2
  have T4 := Lib.hid fun (w5 : World) (hb : Below w1.heap.size w1 w5) => T1.out w5 (hw0.trans (hb.mono (by omega)))
  have T5 := Lib.hid fun (w5 : World) (hb : Below w1.heap.size w1 w5) => T2.out w5 (hw0.trans (hb.mono (by omega)))
  generalize hE0 : E 0 = e0 at *
  go_region_held3 (fun ω => Below w1.heap.size w1 ω ∧ ω.cell? ⟨w.heap.size, 0, none⟩ = some (.slice g.A n1 g.c) ∧ ω.cell? ⟨w.heap.size, 1, none⟩ = some (.slice h.A n2 h.c) ∧ ω.cell? ⟨w.heap.size, 2, none⟩ = some (.slice A dn D.c)) (refine ⟨by (repeat' (first | (with_reducible exact Below.refl _ _) | (with_reducible assumption) | (with_reducible refine Below.alloc ?_ ?_ _) | (with_reducible refine Below.drew ?_) | (with_reducible refine below_drewN ?_ _) | (with_reducible refine Below.setCell ?_ ?_ _) | (with_reducible refine Below.trans ?_ (Below.mono (by assumption) ?_)) | omega | (simp; omega) | (simp; done))), ?_, ?_, ?_⟩ <;> (repeat' (first | (with_reducible assumption) | (with_reducible refine cell_alloc_keep ?_) | (with_reducible refine cell_drew_keep ?_) | (with_reducible refine cell_drewN_keep ?_) | (with_reducible refine cell_below (by assumption) ?_ ?_) | omega | (simp; done) | (simp; omega)))) (first | (go_at_call 146; ((with_reducible refine (T4.out _ (by (repeat' (first | (with_reducible exact Below.refl _ _) | (with_reducible assumption) | (with_reducible refine Below.alloc ?_ ?_ _) | (with_reducible refine Below.drew ?_) | (with_reducible refine below_drewN ?_ _) | (with_reducible refine Below.setCell ?_ ?_ _) | (with_reducible refine Below.trans ?_ (Below.mono (by assumption) ?_)) | omega | (simp; omega) | (simp; done))))).mono ?_); rintro e w5 ⟨rfl, hb5⟩; have hz5 := hb5.size; (repeat (first | simp only [World.size_alloc] at hz5 | simp only [World.size_drew] at hz5 | simp only [World.size_setCell] at hz5)))) | (go_at_call 146; ((with_reducible refine (T5.out _ (by (repeat' (first | (with_reducible exact Below.refl _ _) | (with_reducible assumption) | (with_reducible refine Below.alloc ?_ ?_ _) | (with_reducible refine Below.drew ?_) | (with_reducible refine below_drewN ?_ _) | (with_reducible refine Below.setCell ?_ ?_ _) | (with_reducible refine Below.trans ?_ (Below.mono (by assumption) ?_)) | omega | (simp; omega) | (simp; done))))).mono ?_); rintro e w5 ⟨rfl, hb5⟩; have hz5 := hb5.size; (repeat (first | simp only [World.size_alloc] at hz5 | simp only [World.size_drew] at hz5 | simp only [World.size_setCell] at hz5)))) | (go_at_call 30; ((with_reducible refine (refWhen _ _ _).mono ?_); rintro e w5 ⟨rfl, rfl⟩)) | (go_at_call 39; ((with_reducible refine (refFirst3_as _ _ _ _ _ e0 _ (cells3 _ _ _ _ _ _ _ (by simp)) (fun _ => E0.out)).mono ?_); rintro e w5 ⟨rfl, rfl⟩)) | fail)
  have hH : Below w1.heap.size w1 w5 := by (repeat' (first | (with_reducible exact Below.refl _ _) | (with_reducible assumption) | (with_reducible refine Below.alloc ?_ ?_ _) | (with_reducible refine Below.drew ?_) | (with_reducible refine below_drewN ?_ _) | (with_reducible refine Below.setCell ?_ ?_ _) | (with_reducible refine Below.trans ?_ (Below.mono (by assumption) ?_)) | omega | (simp; omega) | (simp; done)))
  refine exit_world (fun ω => Below (w.heap.size + 1) (w.alloc (.cells #[.slice g.A n1 g.c, .slice h.A n2 h.c, .slice A dn D.c] 125)) ω) (Below.alloc (hB1.trans (hH.mono hsz)) (by have := hH.size; omega) _) ?_
  clear hb5 hz5 hH
  rename_i hHeld
  clear hHeld
  rintro w6 hB6
  clear d0 d1 d2 hB1 hw0 hsz T4 T5 T1 T2
  go_wp2_with fail
  go_loopw [3, 4] (fun ev i wr => ∃ (k : Nat) (x : Int), k ≤ dn ∧ i = .int .i64 k ∧ ev = .int .i64 x ∧ Hid (x = E k) ∧ Below (w.heap.size + 1) (w.alloc (.cells #[.slice g.A n1 g.c, .slice h.A n2 h.c, .slice A dn D.c] 125)) wr) (fun _ i _ => dn - (intOf i).toNat)
  case atStart => exact ⟨0, e0, Nat.zero_le _, rfl, rfl, hE0.symm, hB6⟩
  case round =>
    obtain ⟨k, x, hkn, rfl, rfl, hx, hB⟩ := hrel
    have hsz := hB.size
    simp only [World.size_alloc] at hsz
    have hw0 : Below w.heap.size w wr := ((Below.refl _ _).alloc (Nat.le_refl _) _).trans (hB.mono (by omega))
    have d0 : wr.cell? ⟨w.heap.size, 0, none⟩ = some (.slice g.A n1 g.c) := hbox _ _ _ _ hB 0
    have d1 : wr.cell? ⟨w.heap.size, 1, none⟩ = some (.slice h.A n2 h.c) := hbox _ _ _ _ hB 1
    have d2 : wr.cell? ⟨w.heap.size, 2, none⟩ = some (.slice A dn D.c) := hbox _ _ _ _ hB 2
    by_cases hlt : k < dn
    · by_cases hx0 : x = 0
      · subst hx0
        obtain ⟨bl, off, rfl, hbl, hrow⟩ := NR.out (by omega)
        have d3 : wr.cell? ⟨bl, off + k, none⟩ = some (.slice (D.g k).A (D.g k).n (D.g k).c) := (hw0.cell (p := ⟨bl, _, none⟩) hbl).trans (hrow k hlt)
        clear hrow
        have T4 := Lib.hid fun (w5 : World) (hb : Below wr.heap.size wr w5) => T3.out k hlt w5 (hw0.trans (hb.mono (by omega)))
        have X1 := Lib.hid (E1.out k hx.out.symm)
        have hrn := HR.out k hlt
        generalize pworth (D.g k).f (D.g k).n = pw at *
        generalize (D.g k).n = rn at *
        generalize hE2 : E (k + 1) = e2 at *
        have HE2 := Lib.hid hE2
        clear hE2
        go_upto_region 5 with fail
        go_region_held3 (fun ω => Below wr.heap.size wr ω ∧ ω.cell? ⟨w.heap.size, 0, none⟩ = some (.slice g.A n1 g.c) ∧ ω.cell? ⟨w.heap.size, 1, none⟩ = some (.slice h.A n2 h.c) ∧ ω.cell? ⟨w.heap.size, 2, none⟩ = some (.slice (some ⟨bl, off, none⟩) dn D.c) ∧ ω.cell? ⟨bl, off + k, none⟩ = some (.slice (D.g k).A rn (D.g k).c)) (refine ⟨by (repeat' (first | (with_reducible exact Below.refl _ _) | (with_reducible assumption) | (with_reducible refine Below.alloc ?_ ?_ _) | (with_reducible refine Below.drew ?_) | (with_reducible refine below_drewN ?_ _) | (with_reducible refine Below.setCell ?_ ?_ _) | (with_reducible refine Below.trans ?_ (Below.mono (by assumption) ?_)) | omega | (simp; omega) | (simp; done))), ?_, ?_, ?_, ?_⟩ <;> (repeat' (first | (with_reducible assumption) | (with_reducible refine cell_alloc_keep ?_) | (with_reducible refine cell_drew_keep ?_) | (with_reducible refine cell_drewN_keep ?_) | (with_reducible refine cell_below (by assumption) ?_ ?_) | omega | (simp; done) | (simp; omega)))) (first | (go_at_call 147; ((with_reducible refine (T4.out _ (by (repeat' (first | (with_reducible exact Below.refl _ _) | (with_reducible assumption) | (with_reducible refine Below.alloc ?_ ?_ _) | (with_reducible refine Below.drew ?_) | (with_reducible refine below_drewN ?_ _) | (with_reducible refine Below.setCell ?_ ?_ _) | (with_reducible refine Below.trans ?_ (Below.mono (by assumption) ?_)) | omega | (simp; omega) | (simp; done))))).mono ?_); rintro e w5 ⟨rfl, hb5⟩; have hz5 := hb5.size; (repeat (first | simp only [World.size_alloc] at hz5 | simp only [World.size_drew] at hz5 | simp only [World.size_setCell] at hz5)))) | (go_at_call 30; ((with_reducible refine (refWhen _ _ _).mono ?_); rintro e w5 ⟨rfl, rfl⟩)) | (go_at_call 39; ((with_reducible refine (refFirst2_as _ _ _ _ e2 _ (cells2 _ _ _ _ _ _ (by simp)) (fun _ => X1.out)).mono ?_); rintro e w5 ⟨rfl, rfl⟩)) | fail)
        go_wp2_with fail
        go_roundw
        case rel => exact ⟨k + 1, e2, by omega, by go_num, rfl, HE2.out.symm, by (repeat' (first | (with_reducible exact Below.refl _ _) | (with_reducible assumption) | (with_reducible refine Below.alloc ?_ ?_ _) | (with_reducible refine Below.drew ?_) | (with_reducible refine below_drewN ?_ _) | (with_reducible refine Below.setCell ?_ ?_ _) | (with_reducible refine Below.trans ?_ (Below.mono (by assumption) ?_)) | omega | (simp; omega) | (simp; done)))⟩
        case measure => simp [intOf]; omega
      · have X1 := Lib.hid (E2.out k hkn (fun h0 => hx0 (hx.out.trans h0)))
        have X2 : Hid (x = pe) := hx.out.trans X1.out
        go_wp2_with fail
        go_ret
        exact ⟨by first | rfl | (rw [X2.out]; rfl), by (repeat' (first | (with_reducible exact Below.refl _ _) | (with_reducible assumption) | (with_reducible refine Below.alloc ?_ ?_ _) | (with_reducible refine Below.drew ?_) | (with_reducible refine below_drewN ?_ _) | (with_reducible refine Below.setCell ?_ ?_ _) | (with_reducible refine Below.trans ?_ (Below.mono (by assumption) ?_)) | omega | (simp; omega) | (simp; done)))⟩
    · have hkn : k = dn := by omega
      subst hkn
      have X2 : Hid (x = pe) := hx.out.trans E3.out
      go_wp2_with fail
      go_ret
      exact ⟨by first | rfl | (rw [X2.out]; rfl), by (repeat' (first | (with_reducible exact Below.refl _ _) | (with_reducible assumption) | (with_reducible refine Below.alloc ?_ ?_ _) | (with_reducible refine Below.drew ?_) | (with_reducible refine below_drewN ?_ _) | (with_reducible refine Below.setCell ?_ ?_ _) | (with_reducible refine Below.trans ?_ (Below.mono (by assumption) ?_)) | omega | (simp; omega) | (simp; done)))⟩
end Go.Proofs.Ytdfpenjhpemokaa.Sx
