/-
  table.CheckGrid: the contract.
-/
import Derived.Test.YtdfpenjhpemokaaGridPl
import Derived.Test.YtdfpenjhpemokaaLineC
import Derived.Test.YtdfpenjhpemokaaSxStd
import Derived.Deep.Cut
import Derived.Deep.CutRange
import Derived.Outline
import Derived.Deep.RegionHeld3
set_option linter.unusedVariables false
set_option linter.unusedSimpArgs false
namespace Go.Proofs.Ytdfpenjhpemokaa.Sx
open Go.RowKit
theorem gd_row1 {g : GD} {w : World} (o : g.ok w) (hk : g.ks = [true]) (hn : 0 < g.n) : ∃ bl off, g.A = some ⟨bl, off, none⟩ ∧ bl < w.heap.size ∧ ∀ i, i < g.n → w.cell? ⟨bl, off + i, none⟩ = some (.int .i64 (g.f i)) := by
  obtain ⟨bl, off, e1, e2, e3⟩ := o.cell 0 0 hn (by rw [hk]; decide)
  refine ⟨bl, off, e1, e2, fun i hi => ?_⟩
  obtain ⟨bl', off', e1', _, e3'⟩ := o.cell i 0 hi (by rw [hk]; decide)
  rw [e1] at e1'
  cases e1'
  rw [hk] at e3'
  have h0 := e3'
  unfold GD.val at h0
  rw [hk] at h0
  have e : off + (i * [true].length + 0) = off + i := by simp
  rw [e] at h0
  exact h0
theorem gd_keep {g : GD} {w w' : World} (h : g.ok w) (hb : Below w.heap.size w w') : g.ok w' :=
  ⟨h.n, fun i j hi hj => by
    obtain ⟨bl, off, e1, e2, e3⟩ := h.cell i j hi hj
    exact ⟨bl, off, e1, Nat.lt_of_lt_of_le e2 hb.size, (hb.cell (p := ⟨bl, _, none⟩) e2).trans e3⟩, h.b64⟩
theorem nd_row {D : ND} {w : World} {ks : List Bool} (o : D.ok w ks) (hn : 0 < D.n) : ∃ bl off, D.A = some ⟨bl, off, none⟩ ∧ bl < w.heap.size ∧ ∀ i, i < D.n → w.cell? ⟨bl, off + i, none⟩ = some (.slice (D.g i).A (D.g i).n (D.g i).c) := by
  obtain ⟨bl, off, e1, e2, e3⟩ := o.cell 0 hn
  refine ⟨bl, off, e1, e2, fun i hi => ?_⟩
  obtain ⟨bl', off', e1', _, e3'⟩ := o.cell i hi
  rw [e1] at e1'
  cases e1'
  exact e3'
theorem nd_keep {D : ND} {w w' : World} {ks : List Bool} (h : D.ok w ks) (hb : Below w.heap.size w w') : D.ok w' ks :=
  ⟨h.n, fun i hi => by
    obtain ⟨bl, off, e1, e2, e3⟩ := h.cell i hi
    exact ⟨bl, off, e1, Nat.lt_of_lt_of_le e2 hb.size, (hb.cell (p := ⟨bl, _, none⟩) e2).trans e3⟩, fun i => ⟨gd_keep (h.g i).1 hb, (h.g i).2⟩⟩
set_option maxRecDepth 100000 in
set_option maxHeartbeats 1000000 in
theorem tableEnds (g : GD) (hk : g.ks = [true]) (hn : 1 ≤ g.n) (hn2 : g.n ≤ 1000) (w : World) (o : g.ok w) :
    Calls Try.prog 152 #[.slice g.A g.n g.c] w fun e w' => e = .returned (.tuple #[.int .i64 (g.f 0), .int .i64 (g.f (g.n - 1))]) ∧ Below w.heap.size w w' := by
  obtain ⟨bl, off, eA, hbl, hrow⟩ := gd_row1 o hk hn
  have hc0 := hrow 0 hn
  have hc1 := hrow (g.n - 1) (by omega)
  rw [Nat.add_zero] at hc0
  clear hrow o hk
  generalize g.f 0 = f0 at *
  generalize g.f (g.n - 1) = f1 at *
  rw [eA]
  generalize g.n = n at *
  have hw : IntKind.wrap .i64 ((n : Int) - 1) = ((n - 1 : Nat) : Int) := by rw [IntWalk.i64_in _ ⟨by omega, by omega⟩]; omega
  have hlt : n - 1 < n := by omega
  go_enter Try.func152, Try.ntmps152
  go_wp2_with fail
  go_region
  all_goals go_wp2
  all_goals refine bodyPost_ret (v := .tuple #[.int .i64 f0, .int .i64 f1]) ?_ rfl ⟨rfl, by (repeat' (first | (with_reducible exact Below.refl _ _) | (with_reducible assumption) | (with_reducible refine Below.alloc ?_ ?_ _) | (with_reducible refine Below.drew ?_) | (with_reducible refine below_drewN ?_ _) | (with_reducible refine Below.setCell ?_ ?_ _) | (with_reducible refine Below.trans ?_ (Below.mono (by assumption) ?_)) | omega | (simp; omega) | (simp; done)))⟩
  all_goals simp [results, Try.results152, go_sem]
theorem idx0 (x y : Value) (w : World) : (Instr.index 224 (.agg #[x, y]) (.int .i64 0)).run Try.prog w = .ok x w := by
  simp [Instr.index, run_underlying Try.underlying224, asIntOf, go_sem]
theorem idx1 (x y : Value) (w : World) : (Instr.index 224 (.agg #[x, y]) (.int .i64 1)).run Try.prog w = .ok y w := by
  simp [Instr.index, run_underlying Try.underlying224, asIntOf, go_sem]
theorem hbox (w w1 : World) (c : Array Value) (T : TypeId) (hb : Below (w.heap.size + 1) (w.alloc (.cells c T)) w1) (i : Nat) : w1.cell? ⟨w.heap.size, i, none⟩ = c[i]? :=
  (hb.cell (p := ⟨w.heap.size, i, none⟩) (Nat.lt_succ_self _)).trans (World.cell?_alloc_mark w _ _ _ _)
theorem pgrid_g {g h : GD} {k : Nat} {R : Nat → GD} (hz : prising g.f g.n ≠ 0) : pgrid g h k R = prising g.f g.n := by
  unfold pgrid por; rw [if_neg hz]
theorem pgrid_h {g h : GD} {k : Nat} {R : Nat → GD} (hz : prising g.f g.n = 0) (hz' : prising h.f h.n ≠ 0) : pgrid g h k R = prising h.f h.n := by
  unfold pgrid por; rw [if_pos hz, if_neg hz']
theorem pgrid_n {g h : GD} {k : Nat} {R : Nat → GD} (hz : prising g.f g.n = 0) (hz' : prising h.f h.n = 0) (hn : k ≠ g.n) : pgrid g h k R = 3 := by
  unfold pgrid por; rw [if_pos hz, if_pos hz', if_pos hn]
theorem pgrid_r {g h : GD} {k : Nat} {R : Nat → GD} (hz : prising g.f g.n = 0) (hz' : prising h.f h.n = 0) (hn : k = g.n) : pgrid g h k R = prows h.n R k := by
  unfold pgrid por; rw [if_pos hz, if_pos hz', if_neg (by omega)]
set_option maxRecDepth 100000 in
set_option maxHeartbeats 1000000 in
theorem tableCheckGrid (g h : GD) (D : ND) (hk : g.ks = [true]) (hk' : h.ks = [true]) (hn : g.n ≤ 1000) (hn' : h.n ≤ 1000) (hD : D.n ≤ 1000) (w : World) (o : g.ok w) (o' : h.ok w) (oD : D.ok w [true]) :
    Calls Try.prog 86 #[.agg #[.slice g.A g.n g.c, .slice h.A h.n h.c, .slice D.A D.n D.c]] w fun e w' => e = .returned (errV (pgrid g h D.n D.g)) ∧ Below w.heap.size w w' := by
  have T1 := Lib.hid fun (w1 : World) (hb : Below w.heap.size w w1) => tableRising g hk hn w1 (gd_keep o hb)
  have T2 := Lib.hid fun (w1 : World) (hb : Below w.heap.size w w1) => tableRising h hk' hn' w1 (gd_keep o' hb)
  have T3 := Lib.hid fun (i : Nat) (hi : (D.g i).n = h.n) (w1 : World) (hb : Below w.heap.size w w1) => tableWorth (D.g i) (oD.g i).2 (by omega) w1 (gd_keep (oD.g i).1 hb)
  have P1 := Lib.hid fun hz => pgrid_g (g := g) (h := h) (k := D.n) (R := D.g) hz
  have P2 := Lib.hid fun hz hz' => pgrid_h (g := g) (h := h) (k := D.n) (R := D.g) hz hz'
  have P3 := Lib.hid fun hz hz' hh => pgrid_n (g := g) (h := h) (k := D.n) (R := D.g) hz hz' hh
  have P4 := Lib.hid fun hz hz' hh => pgrid_r (g := g) (h := h) (k := D.n) (R := D.g) hz hz' hh
  have NR := Lib.hid fun (h0 : 0 < D.n) => nd_row oD h0
  clear o o' oD hk hk'
  generalize hpe : pgrid g h D.n D.g = pe at *
  clear hpe
  generalize prising g.f g.n = r1 at *
  generalize prising h.f h.n = r2 at *
  generalize D.A = A at *
  generalize g.n = n1 at *
  generalize h.n = n2 at *
  generalize D.n = dn at *
  have hx0 := idx0 (.slice g.A n1 g.c) (.slice h.A n2 h.c)
  have hx1 := idx1 (.slice g.A n1 g.c) (.slice h.A n2 h.c)
  go_enter Try.func86, Try.ntmps86
  go_wp2_with fail
  go_loopw [14] (fun i wr => ∃ k : Int, 0 ≤ k ∧ k ≤ 2 ∧ i = .int .i64 k ∧ (1 ≤ k → Hid (r1 = 0)) ∧ (2 ≤ k → Hid (r2 = 0)) ∧ Below (w.heap.size + 1) (w.alloc (.cells #[.slice g.A n1 g.c, .slice h.A n2 h.c, .slice A dn D.c] 125)) wr) (fun i _ => 2 - (intOf i).toNat)
  case atStart => exact ⟨0, by omega, by omega, rfl, fun h => absurd h (by omega), fun h => absurd h (by omega), Below.refl _ _⟩
  case round =>
    obtain ⟨k, hk1, hk2, rfl, q1, q2, hbw⟩ := hrel
    have hsz := hbw.size
    simp only [World.size_alloc] at hsz
    have hw0 : Below w.heap.size w wr := ((Below.refl _ _).alloc (Nat.le_refl _) _).trans (hbw.mono (by omega))
    have hb0 : wr.cell? ⟨w.heap.size, 0, none⟩ = some (.slice g.A n1 g.c) := hbox _ _ _ _ hbw 0
    have hb1 : wr.cell? ⟨w.heap.size, 1, none⟩ = some (.slice h.A n2 h.c) := hbox _ _ _ _ hbw 1
    have hb2 : wr.cell? ⟨w.heap.size, 2, none⟩ = some (.slice A dn D.c) := hbox _ _ _ _ hbw 2
    obtain h0 | h0 | h0 : k = 0 ∨ k = 1 ∨ k = 2 := by omega
    · subst h0
      by_cases hz : r1 = 0
      · have hz2 : (r1 != 0) = false := by simpa using hz
        have HZ := Lib.hid hz
        clear hz
        go_wp2_with (go_at_call 150; (with_reducible refine (T1.out _ hw0).mono ?_); rintro e w1 ⟨rfl, hb3⟩; have hz3 := hb3.size)
        go_roundw
        case rel => exact ⟨1, by omega, by omega, by go_num, fun _ => HZ, fun h => absurd h (by omega), by (repeat' (first | (with_reducible exact Below.refl _ _) | (with_reducible assumption) | (with_reducible refine Below.alloc ?_ ?_ _) | (with_reducible refine Below.drew ?_) | (with_reducible refine below_drewN ?_ _) | (with_reducible refine Below.setCell ?_ ?_ _) | (with_reducible refine Below.trans ?_ (Below.mono (by assumption) ?_)) | omega | (simp; omega) | (simp; done)))⟩
        case measure => simp [intOf]
      · have hz2 : (r1 != 0) = true := by simpa using hz
        have HP := Lib.hid (P1.out hz)
        clear hz
        go_wp2_with (go_at_call 150; (with_reducible refine (T1.out _ hw0).mono ?_); rintro e w1 ⟨rfl, hb3⟩; have hz3 := hb3.size)
        go_ret
        exact ⟨by rw [HP.out]; rfl, by (repeat' (first | (with_reducible exact Below.refl _ _) | (with_reducible assumption) | (with_reducible refine Below.alloc ?_ ?_ _) | (with_reducible refine Below.drew ?_) | (with_reducible refine below_drewN ?_ _) | (with_reducible refine Below.setCell ?_ ?_ _) | (with_reducible refine Below.trans ?_ (Below.mono (by assumption) ?_)) | omega | (simp; omega) | (simp; done)))⟩
    · subst h0
      have Q1 := q1 (by omega)
      by_cases hz : r2 = 0
      · have hz2 : (r2 != 0) = false := by simpa using hz
        have HZ := Lib.hid hz
        clear hz
        go_wp2_with (go_at_call 150; (with_reducible refine (T2.out _ hw0).mono ?_); rintro e w1 ⟨rfl, hb3⟩; have hz3 := hb3.size)
        go_roundw
        case rel => exact ⟨2, by omega, by omega, by go_num, fun _ => Q1, fun _ => HZ, by (repeat' (first | (with_reducible exact Below.refl _ _) | (with_reducible assumption) | (with_reducible refine Below.alloc ?_ ?_ _) | (with_reducible refine Below.drew ?_) | (with_reducible refine below_drewN ?_ _) | (with_reducible refine Below.setCell ?_ ?_ _) | (with_reducible refine Below.trans ?_ (Below.mono (by assumption) ?_)) | omega | (simp; omega) | (simp; done)))⟩
        case measure => simp [intOf]
      · have hz2 : (r2 != 0) = true := by simpa using hz
        have HP := Lib.hid (P2.out Q1.out hz)
        clear hz
        go_wp2_with (go_at_call 150; (with_reducible refine (T2.out _ hw0).mono ?_); rintro e w1 ⟨rfl, hb3⟩; have hz3 := hb3.size)
        go_ret
        exact ⟨by rw [HP.out]; rfl, by (repeat' (first | (with_reducible exact Below.refl _ _) | (with_reducible assumption) | (with_reducible refine Below.alloc ?_ ?_ _) | (with_reducible refine Below.drew ?_) | (with_reducible refine below_drewN ?_ _) | (with_reducible refine Below.setCell ?_ ?_ _) | (with_reducible refine Below.trans ?_ (Below.mono (by assumption) ?_)) | omega | (simp; omega) | (simp; done)))⟩
    · subst h0
      have Q1 := q1 (by omega)
      have Q2 := q2 (by omega)
      obtain ⟨wo, rfl⟩ : ∃ wo, wo = wr := ⟨_, rfl⟩
      clear q1 q2
      by_cases hgn : dn = n1
      · have HP := Lib.hid (P4.out Q1.out Q2.out hgn)
        subst hgn
        go_wp2_with fail
        go_loopw [34] (fun i wr => ∃ k : Nat, k ≤ dn ∧ i = .int .i64 k ∧ Hid (prows n2 D.g k = 0) ∧ Below (w.heap.size + 1) (w.alloc (.cells #[.slice g.A dn g.c, .slice h.A n2 h.c, .slice A dn D.c] 125)) wr) (fun i _ => dn - (intOf i).toNat)
        case atStart => exact ⟨0, Nat.zero_le _, rfl, rfl, hbw⟩
        case round =>
          clear hb0 hb1 hb2 hw0 hsz
          obtain ⟨k, hkn, rfl, hz, hbw2⟩ := hrel
          have hsz := hbw2.size
          simp only [World.size_alloc] at hsz
          have hw0 : Below w.heap.size w wr := ((Below.refl _ _).alloc (Nat.le_refl _) _).trans (hbw2.mono (by omega))
          have hb0 : wr.cell? ⟨w.heap.size, 0, none⟩ = some (.slice g.A dn g.c) := hbox _ _ _ _ hbw2 0
          have hb1 : wr.cell? ⟨w.heap.size, 1, none⟩ = some (.slice h.A n2 h.c) := hbox _ _ _ _ hbw2 1
          have hb2 : wr.cell? ⟨w.heap.size, 2, none⟩ = some (.slice A dn D.c) := hbox _ _ _ _ hbw2 2
          by_cases hlt : k < dn
          · obtain ⟨bl, off, rfl, hbl, hrow⟩ := NR.out (by omega)
            have hck : wr.cell? ⟨bl, off + k, none⟩ = some (.slice (D.g k).A (D.g k).n (D.g k).c) := (hw0.cell (p := ⟨bl, _, none⟩) hbl).trans (hrow k hlt)
            clear hrow
            have S1 : Hid (∀ e, prow n2 (D.g k) = e → e ≠ 0 → prows n2 D.g dn = e) := fun e he hne => prows_bad hz.out he hne hlt
            have S2 : Hid (prow n2 (D.g k) = 0 → prows n2 D.g (k + 1) = 0) := fun he => by show por _ _ = 0; rw [hz.out, he]; rfl
            have S3 : Hid ((D.g k).n = n2 → prow n2 (D.g k) = pworth (D.g k).f n2) := fun hm => by unfold prow; rw [if_neg (by omega), hm]
            have S5 : Hid ((D.g k).n ≠ n2 → prow n2 (D.g k) = 3) := fun hm => by unfold prow; rw [if_pos hm]
            have T4 := Lib.hid (T3.out k)
            generalize (D.g k).n = rn at *
            by_cases hm : rn = n2
            · subst hm
              have S3 := Lib.hid (S3.out rfl)
              have T4 := Lib.hid (T4.out rfl)
              generalize pworth (D.g k).f rn = pw at *
              by_cases hp : pw = 0
              · have hp2 : (pw != 0) = false := by simpa using hp
                have S4 := Lib.hid (S2.out (S3.out.trans hp))
                clear hp
                go_wp2_with (go_at_call 151; (with_reducible refine (T4.out _ hw0).mono ?_); rintro e w1 ⟨rfl, hb3⟩; have hz3 := hb3.size)
                go_roundw
                case rel => exact ⟨k + 1, by omega, by go_num, S4, by (repeat' (first | (with_reducible exact Below.refl _ _) | (with_reducible assumption) | (with_reducible refine Below.alloc ?_ ?_ _) | (with_reducible refine Below.drew ?_) | (with_reducible refine below_drewN ?_ _) | (with_reducible refine Below.setCell ?_ ?_ _) | (with_reducible refine Below.trans ?_ (Below.mono (by assumption) ?_)) | omega | (simp; omega) | (simp; done)))⟩
                case measure => simp [intOf]; omega
              · have hp2 : (pw != 0) = true := by simpa using hp
                have S4 := Lib.hid (S1.out _ S3.out hp)
                clear hp
                go_wp2_with (go_at_call 151; (with_reducible refine (T4.out _ hw0).mono ?_); rintro e w1 ⟨rfl, hb3⟩; have hz3 := hb3.size)
                go_ret
                exact ⟨by rw [HP.out, S4.out]; rfl, by (repeat' (first | (with_reducible exact Below.refl _ _) | (with_reducible assumption) | (with_reducible refine Below.alloc ?_ ?_ _) | (with_reducible refine Below.drew ?_) | (with_reducible refine below_drewN ?_ _) | (with_reducible refine Below.setCell ?_ ?_ _) | (with_reducible refine Below.trans ?_ (Below.mono (by assumption) ?_)) | omega | (simp; omega) | (simp; done)))⟩
            · have S4 := Lib.hid (S1.out 3 (S5.out hm) (by decide))
              go_wp2_with fail
              go_ret
              exact ⟨by rw [HP.out, S4.out]; rfl, by (repeat' (first | (with_reducible exact Below.refl _ _) | (with_reducible assumption) | (with_reducible refine Below.alloc ?_ ?_ _) | (with_reducible refine Below.drew ?_) | (with_reducible refine below_drewN ?_ _) | (with_reducible refine Below.setCell ?_ ?_ _) | (with_reducible refine Below.trans ?_ (Below.mono (by assumption) ?_)) | omega | (simp; omega) | (simp; done)))⟩
          · have hkn : k = dn := by omega
            subst hkn
            have HZ := Lib.hid hz.out
            go_wp2_with fail
            go_ret
            exact ⟨by rw [HP.out, HZ.out]; rfl, by (repeat' (first | (with_reducible exact Below.refl _ _) | (with_reducible assumption) | (with_reducible refine Below.alloc ?_ ?_ _) | (with_reducible refine Below.drew ?_) | (with_reducible refine below_drewN ?_ _) | (with_reducible refine Below.setCell ?_ ?_ _) | (with_reducible refine Below.trans ?_ (Below.mono (by assumption) ?_)) | omega | (simp; omega) | (simp; done)))⟩
      · have HP := Lib.hid (P3.out Q1.out Q2.out hgn)
        go_wp2_with fail
        go_ret
        exact ⟨by rw [HP.out]; rfl, by (repeat' (first | (with_reducible exact Below.refl _ _) | (with_reducible assumption) | (with_reducible refine Below.alloc ?_ ?_ _) | (with_reducible refine Below.drew ?_) | (with_reducible refine below_drewN ?_ _) | (with_reducible refine Below.setCell ?_ ?_ _) | (with_reducible refine Below.trans ?_ (Below.mono (by assumption) ?_)) | omega | (simp; omega) | (simp; done)))⟩
end Go.Proofs.Ytdfpenjhpemokaa.Sx
