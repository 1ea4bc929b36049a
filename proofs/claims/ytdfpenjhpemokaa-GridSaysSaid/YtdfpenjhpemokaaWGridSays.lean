/-
  The law GridSays walked.
-/
import Derived.Test.YtdfpenjhpemokaaGridD
import Derived.Test.YtdfpenjhpemokaaGridOpen
import Derived.Test.YtdfpenjhpemokaaRow
import Derived.Test.YtdfpenjhpemokaaFrame
set_option linter.unusedVariables false
set_option linter.unusedSimpArgs false
namespace Go.Proofs.Ytdfpenjhpemokaa.Sx
open Go.RowKit
theorem refIs0 (j : Int) (w : World) : Calls Try.prog 34 #[.nilIface, .int .i64 j] w fun e w' => e = .returned (.bool ((0 : Int) == j)) ∧ w = w' := refIs 0 j w
set_option maxRecDepth 100000 in
set_option maxHeartbeats 2000000 in
theorem gridSays_true (g h : GD) (D : ND) (hk : g.ks = [true]) (hk' : h.ks = [true]) (x y : Int) (w : World) (o : g.ok w) (o' : h.ok w) (oD : D.ok w [true]) :
    Calls Try.prog 13 #[.agg #[.slice g.A g.n g.c, .slice h.A h.n h.c, .slice D.A D.n D.c], .int .i64 x, .int .i64 y] w fun e w' => e = .returned (.bool true) ∧ Below w.heap.size w w' := by
  have bn := oD.n
  have NR := Lib.hid fun (h0 : 0 < D.n) => nd_row oD h0
  have TG := Lib.hid fun (a1 : g.n ≤ 20) (a2 : h.n ≤ 20) (a3 : D.n ≤ 20) (a4 : ∀ i, i < D.n → (D.g i).n ≤ 20) (w1 : World) (hb : Below w.heap.size w w1) => refGridMay g h D hk hk' (by omega) (by omega) (by omega) (fun i hi => by have := a4 i hi; omega) w1 (gd_keep o hb) (gd_keep o' hb) (nd_keep oD hb)
  have TC := Lib.hid fun (a1 : g.n ≤ 20) (a2 : h.n ≤ 20) (a3 : D.n ≤ 20) (w1 : World) (hb : Below w.heap.size w w1) => tableCheckGrid g h D hk hk' (by omega) (by omega) (by omega) w1 (gd_keep o hb) (gd_keep o' hb) (nd_keep oD hb)
  have TE := Lib.hid fun (a1 : g.n ≤ 20) (a2 : h.n ≤ 20) (a3 : D.n ≤ 20) (hz : pgrid g h D.n D.g ≠ 0) (w1 : World) (hb : Below w.heap.size w w1) => tableHeight_e g h D hk hk' (by omega) (by omega) (by omega) x y w1 (gd_keep o hb) (gd_keep o' hb) (nd_keep oD hb) hz
  have TZ := Lib.hid fun (a1 : g.n ≤ 20) (a2 : h.n ≤ 20) (a3 : D.n ≤ 20) (hz : pgrid g h D.n D.g = 0) (w1 : World) (hb : Below w.heap.size w w1) => tableHeight_z g h D hk hk' (by omega) (by omega) (by omega) x y w1 (gd_keep o hb) (gd_keep o' hb) (nd_keep oD hb) hz
  have TR := Lib.hid fun (hz : pgrid g h D.n D.g = 0) (w1 : World) (hb : Below w.heap.size w w1) => refHeight g h D hk hk' x y w1 (gd_keep o hb) (gd_keep o' hb) (nd_keep oD hb) hz
  clear o o' oD hk hk'
  generalize pgrid g h D.n D.g = pe at *
  generalize pheight g h D.g x y = ph at *
  generalize D.A = A at *
  generalize D.n = dn at *
  by_cases h1 : 20 < g.n
  · go_enter Try.func13, Try.ntmps13
    go_wp2_with fail
    go_ret
    exact ⟨rfl, by (repeat' (first | (with_reducible exact Below.refl _ _) | (with_reducible assumption) | (with_reducible refine Below.alloc ?_ ?_ _) | (with_reducible refine Below.drew ?_) | (with_reducible refine below_drewN ?_ _) | (with_reducible refine Below.setCell ?_ ?_ _) | (with_reducible refine Below.trans ?_ (Below.mono (by assumption) ?_)) | omega | (simp; omega) | (simp; done)))⟩
  · by_cases h2 : 20 < h.n
    · go_enter Try.func13, Try.ntmps13
      go_wp2_with fail
      go_ret
      exact ⟨rfl, by (repeat' (first | (with_reducible exact Below.refl _ _) | (with_reducible assumption) | (with_reducible refine Below.alloc ?_ ?_ _) | (with_reducible refine Below.drew ?_) | (with_reducible refine below_drewN ?_ _) | (with_reducible refine Below.setCell ?_ ?_ _) | (with_reducible refine Below.trans ?_ (Below.mono (by assumption) ?_)) | omega | (simp; omega) | (simp; done)))⟩
    · by_cases h3 : 20 < dn
      · go_enter Try.func13, Try.ntmps13
        go_wp2_with fail
        go_ret
        exact ⟨rfl, by (repeat' (first | (with_reducible exact Below.refl _ _) | (with_reducible assumption) | (with_reducible refine Below.alloc ?_ ?_ _) | (with_reducible refine Below.drew ?_) | (with_reducible refine below_drewN ?_ _) | (with_reducible refine Below.setCell ?_ ?_ _) | (with_reducible refine Below.trans ?_ (Below.mono (by assumption) ?_)) | omega | (simp; omega) | (simp; done)))⟩
      · have TG := Lib.hid (TG.out (by omega) (by omega) (by omega))
        have TC := Lib.hid (TC.out (by omega) (by omega) (by omega))
        have TE := Lib.hid (TE.out (by omega) (by omega) (by omega))
        have TZ := Lib.hid (TZ.out (by omega) (by omega) (by omega))
        go_enter Try.func13, Try.ntmps13
        go_wp2_with fail
        go_loopw [7] (fun i wr => ∃ k : Nat, k ≤ dn ∧ i = .int .i64 k ∧ Hid (∀ i, i < k → (D.g i).n ≤ 20) ∧ Below (w.heap.size + 1) (w.alloc (.cells #[.slice g.A g.n g.c, .slice h.A h.n h.c, .slice A dn D.c] 125)) wr) (fun i _ => dn - (intOf i).toNat)
        case atStart => exact ⟨0, Nat.zero_le _, rfl, fun i hi => absurd hi (Nat.not_lt_zero _), Below.refl _ _⟩
        case round =>
          obtain ⟨k, hkn, rfl, hR, hB⟩ := hrel
          have hsz := hB.size
          simp only [World.size_alloc] at hsz
          have hw0 : Below w.heap.size w wr := ((Below.refl _ _).alloc (Nat.le_refl _) _).trans (hB.mono (by omega))
          have d0 : wr.cell? ⟨w.heap.size, 0, none⟩ = some (.slice g.A g.n g.c) := hbox _ _ _ _ hB 0
          have d1 : wr.cell? ⟨w.heap.size, 1, none⟩ = some (.slice h.A h.n h.c) := hbox _ _ _ _ hB 1
          have d2 : wr.cell? ⟨w.heap.size, 2, none⟩ = some (.slice A dn D.c) := hbox _ _ _ _ hB 2
          by_cases hlt : k < dn
          · obtain ⟨bl, off, rfl, hbl, hrow⟩ := NR.out (by omega)
            have d3 : wr.cell? ⟨bl, off + k, none⟩ = some (.slice (D.g k).A (D.g k).n (D.g k).c) := (hw0.cell (p := ⟨bl, _, none⟩) hbl).trans (hrow k hlt)
            clear hrow
            have HR := Lib.hid fun (hm : (D.g k).n ≤ 20) i (hi : i < k + 1) => (show (D.g i).n ≤ 20 from by
              rcases Nat.lt_or_ge i k with hc | hc
              · exact hR.out i hc
              · obtain rfl : i = k := by omega
                exact hm)
            generalize (D.g k).n = rn at *
            by_cases hm : 20 < rn
            · go_wp2_with fail
              go_ret
              exact ⟨rfl, by (repeat' (first | (with_reducible exact Below.refl _ _) | (with_reducible assumption) | (with_reducible refine Below.alloc ?_ ?_ _) | (with_reducible refine Below.drew ?_) | (with_reducible refine below_drewN ?_ _) | (with_reducible refine Below.setCell ?_ ?_ _) | (with_reducible refine Below.trans ?_ (Below.mono (by assumption) ?_)) | omega | (simp; omega) | (simp; done)))⟩
            · have HR := Lib.hid (HR.out (by omega))
              go_wp2_with fail
              go_roundw
              case rel => exact ⟨k + 1, by omega, by go_num, HR, hB⟩
              case measure => simp [intOf]; omega
          · have hkn : k = dn := by omega
            subst hkn
            have TG := Lib.hid (TG.out hR.out)
            by_cases hz : pe = 0
            · subst hz
              have TZ2 := Lib.hid (fun w1 hb => TZ.out rfl w1 hb)
              have TR2 := Lib.hid (fun w1 hb => TR.out rfl w1 hb)
              clear TE NR TZ TR
              go_wp2_with (first | (go_at_call 83; ((with_reducible refine (TG.out _ (by (repeat' (first | (with_reducible exact Below.refl _ _) | (with_reducible assumption) | (with_reducible refine Below.alloc ?_ ?_ _) | (with_reducible refine Below.drew ?_) | (with_reducible refine below_drewN ?_ _) | (with_reducible refine Below.setCell ?_ ?_ _) | (with_reducible refine Below.trans ?_ (Below.mono (by assumption) ?_)) | omega | (simp; omega) | (simp; done))))).mono ?_); rintro e w1 ⟨rfl, hb1⟩; have hz1 := hb1.size; (repeat (first | simp only [World.size_alloc] at hz1 | simp only [World.size_drew] at hz1 | simp only [World.size_setCell] at hz1)); have hB1 : Below w.heap.size w w1 := by (repeat' (first | (with_reducible exact Below.refl _ _) | (with_reducible assumption) | (with_reducible refine Below.alloc ?_ ?_ _) | (with_reducible refine Below.drew ?_) | (with_reducible refine below_drewN ?_ _) | (with_reducible refine Below.setCell ?_ ?_ _) | (with_reducible refine Below.trans ?_ (Below.mono (by assumption) ?_)) | omega | (simp; omega) | (simp; done)))); (have hq1_0 := fun o : Nat => hb1.cell (p := ⟨w.heap.size, o, none⟩) (by first | omega | (simp; done) | (simp; omega))); (have hf1_0 := fun o : Nat => hb1.frozen (p := ⟨w.heap.size, o, none⟩) (by first | omega | (simp; done) | (simp; omega))); (have hy1_0 : w.heap.size < w1.heap.size := by omega); clear hb1) | (go_at_call 84; ((with_reducible refine (TR2.out _ (by (repeat' (first | (with_reducible exact Below.refl _ _) | (with_reducible assumption) | (with_reducible refine Below.alloc ?_ ?_ _) | (with_reducible refine Below.drew ?_) | (with_reducible refine below_drewN ?_ _) | (with_reducible refine Below.setCell ?_ ?_ _) | (with_reducible refine Below.trans ?_ (Below.mono (by assumption) ?_)) | omega | (simp; omega) | (simp; done))))).mono ?_); rintro e w2 ⟨rfl, hb2⟩; have hz2 := hb2.size; (repeat (first | simp only [World.size_alloc] at hz2 | simp only [World.size_drew] at hz2 | simp only [World.size_setCell] at hz2)); have hB2 : Below w.heap.size w w2 := by (repeat' (first | (with_reducible exact Below.refl _ _) | (with_reducible assumption) | (with_reducible refine Below.alloc ?_ ?_ _) | (with_reducible refine Below.drew ?_) | (with_reducible refine below_drewN ?_ _) | (with_reducible refine Below.setCell ?_ ?_ _) | (with_reducible refine Below.trans ?_ (Below.mono (by assumption) ?_)) | omega | (simp; omega) | (simp; done)))); (have hq2_0 := fun o : Nat => hb2.cell (p := ⟨w.heap.size, o, none⟩) (by first | omega | (simp; done) | (simp; omega))); (have hf2_0 := fun o : Nat => hb2.frozen (p := ⟨w.heap.size, o, none⟩) (by first | omega | (simp; done) | (simp; omega))); (have hy2_0 : w.heap.size < w2.heap.size := by omega); clear hb2) | (go_at_call 85; ((with_reducible refine (TZ2.out _ (by (repeat' (first | (with_reducible exact Below.refl _ _) | (with_reducible assumption) | (with_reducible refine Below.alloc ?_ ?_ _) | (with_reducible refine Below.drew ?_) | (with_reducible refine below_drewN ?_ _) | (with_reducible refine Below.setCell ?_ ?_ _) | (with_reducible refine Below.trans ?_ (Below.mono (by assumption) ?_)) | omega | (simp; omega) | (simp; done))))).mono ?_); rintro e w3 ⟨rfl, hb3⟩; have hz3 := hb3.size; (repeat (first | simp only [World.size_alloc] at hz3 | simp only [World.size_drew] at hz3 | simp only [World.size_setCell] at hz3)); have hB3 : Below w.heap.size w w3 := by (repeat' (first | (with_reducible exact Below.refl _ _) | (with_reducible assumption) | (with_reducible refine Below.alloc ?_ ?_ _) | (with_reducible refine Below.drew ?_) | (with_reducible refine below_drewN ?_ _) | (with_reducible refine Below.setCell ?_ ?_ _) | (with_reducible refine Below.trans ?_ (Below.mono (by assumption) ?_)) | omega | (simp; omega) | (simp; done)))); (have hq3_0 := fun o : Nat => hb3.cell (p := ⟨w.heap.size, o, none⟩) (by first | omega | (simp; done) | (simp; omega))); (have hf3_0 := fun o : Nat => hb3.frozen (p := ⟨w.heap.size, o, none⟩) (by first | omega | (simp; done) | (simp; omega))); (have hy3_0 : w.heap.size < w3.heap.size := by omega); clear hb3) | (go_at_call 86; ((with_reducible refine (TC.out _ (by (repeat' (first | (with_reducible exact Below.refl _ _) | (with_reducible assumption) | (with_reducible refine Below.alloc ?_ ?_ _) | (with_reducible refine Below.drew ?_) | (with_reducible refine below_drewN ?_ _) | (with_reducible refine Below.setCell ?_ ?_ _) | (with_reducible refine Below.trans ?_ (Below.mono (by assumption) ?_)) | omega | (simp; omega) | (simp; done))))).mono ?_); rintro e w4 ⟨rfl, hb4⟩; have hz4 := hb4.size; (repeat (first | simp only [World.size_alloc] at hz4 | simp only [World.size_drew] at hz4 | simp only [World.size_setCell] at hz4)); have hB4 : Below w.heap.size w w4 := by (repeat' (first | (with_reducible exact Below.refl _ _) | (with_reducible assumption) | (with_reducible refine Below.alloc ?_ ?_ _) | (with_reducible refine Below.drew ?_) | (with_reducible refine below_drewN ?_ _) | (with_reducible refine Below.setCell ?_ ?_ _) | (with_reducible refine Below.trans ?_ (Below.mono (by assumption) ?_)) | omega | (simp; omega) | (simp; done)))); (have hq4_0 := fun o : Nat => hb4.cell (p := ⟨w.heap.size, o, none⟩) (by first | omega | (simp; done) | (simp; omega))); (have hf4_0 := fun o : Nat => hb4.frozen (p := ⟨w.heap.size, o, none⟩) (by first | omega | (simp; done) | (simp; omega))); (have hy4_0 : w.heap.size < w4.heap.size := by omega); clear hb4) | (go_at_call 34; ((with_reducible refine (refIs _ _ _).mono ?_); rintro e w' ⟨rfl, rfl⟩)) | (go_at_call 34; ((with_reducible refine (refIs0 _ _).mono ?_); rintro e w' ⟨rfl, rfl⟩)) | fail)
              go_ret
              exact ⟨rfl, by (repeat' (first | (with_reducible exact Below.refl _ _) | (with_reducible assumption) | (with_reducible refine Below.alloc ?_ ?_ _) | (with_reducible refine Below.drew ?_) | (with_reducible refine below_drewN ?_ _) | (with_reducible refine Below.setCell ?_ ?_ _) | (with_reducible refine Below.trans ?_ (Below.mono (by assumption) ?_)) | omega | (simp; omega) | (simp; done)))⟩
            · have TE := Lib.hid (TE.out hz)
              clear TZ TR NR
              have hz2 : (pe == 0) = false := by simpa using hz
              go_wp2_with (first | (go_at_call 83; ((with_reducible refine (TG.out _ (by (repeat' (first | (with_reducible exact Below.refl _ _) | (with_reducible assumption) | (with_reducible refine Below.alloc ?_ ?_ _) | (with_reducible refine Below.drew ?_) | (with_reducible refine below_drewN ?_ _) | (with_reducible refine Below.setCell ?_ ?_ _) | (with_reducible refine Below.trans ?_ (Below.mono (by assumption) ?_)) | omega | (simp; omega) | (simp; done))))).mono ?_); rintro e w1 ⟨rfl, hb1⟩; have hz1 := hb1.size; (repeat (first | simp only [World.size_alloc] at hz1 | simp only [World.size_drew] at hz1 | simp only [World.size_setCell] at hz1)); have hB1 : Below w.heap.size w w1 := by (repeat' (first | (with_reducible exact Below.refl _ _) | (with_reducible assumption) | (with_reducible refine Below.alloc ?_ ?_ _) | (with_reducible refine Below.drew ?_) | (with_reducible refine below_drewN ?_ _) | (with_reducible refine Below.setCell ?_ ?_ _) | (with_reducible refine Below.trans ?_ (Below.mono (by assumption) ?_)) | omega | (simp; omega) | (simp; done)))); (have hq1_0 := fun o : Nat => hb1.cell (p := ⟨w.heap.size, o, none⟩) (by first | omega | (simp; done) | (simp; omega))); (have hf1_0 := fun o : Nat => hb1.frozen (p := ⟨w.heap.size, o, none⟩) (by first | omega | (simp; done) | (simp; omega))); (have hy1_0 : w.heap.size < w1.heap.size := by omega); clear hb1) | (go_at_call 85; ((with_reducible refine (TE.out _ (by (repeat' (first | (with_reducible exact Below.refl _ _) | (with_reducible assumption) | (with_reducible refine Below.alloc ?_ ?_ _) | (with_reducible refine Below.drew ?_) | (with_reducible refine below_drewN ?_ _) | (with_reducible refine Below.setCell ?_ ?_ _) | (with_reducible refine Below.trans ?_ (Below.mono (by assumption) ?_)) | omega | (simp; omega) | (simp; done))))).mono ?_); rintro e w3 ⟨rfl, hb3⟩; have hz3 := hb3.size; (repeat (first | simp only [World.size_alloc] at hz3 | simp only [World.size_drew] at hz3 | simp only [World.size_setCell] at hz3)); have hB3 : Below w.heap.size w w3 := by (repeat' (first | (with_reducible exact Below.refl _ _) | (with_reducible assumption) | (with_reducible refine Below.alloc ?_ ?_ _) | (with_reducible refine Below.drew ?_) | (with_reducible refine below_drewN ?_ _) | (with_reducible refine Below.setCell ?_ ?_ _) | (with_reducible refine Below.trans ?_ (Below.mono (by assumption) ?_)) | omega | (simp; omega) | (simp; done)))); (have hq3_0 := fun o : Nat => hb3.cell (p := ⟨w.heap.size, o, none⟩) (by first | omega | (simp; done) | (simp; omega))); (have hf3_0 := fun o : Nat => hb3.frozen (p := ⟨w.heap.size, o, none⟩) (by first | omega | (simp; done) | (simp; omega))); (have hy3_0 : w.heap.size < w3.heap.size := by omega); clear hb3) | (go_at_call 86; ((with_reducible refine (TC.out _ (by (repeat' (first | (with_reducible exact Below.refl _ _) | (with_reducible assumption) | (with_reducible refine Below.alloc ?_ ?_ _) | (with_reducible refine Below.drew ?_) | (with_reducible refine below_drewN ?_ _) | (with_reducible refine Below.setCell ?_ ?_ _) | (with_reducible refine Below.trans ?_ (Below.mono (by assumption) ?_)) | omega | (simp; omega) | (simp; done))))).mono ?_); rintro e w4 ⟨rfl, hb4⟩; have hz4 := hb4.size; (repeat (first | simp only [World.size_alloc] at hz4 | simp only [World.size_drew] at hz4 | simp only [World.size_setCell] at hz4)); have hB4 : Below w.heap.size w w4 := by (repeat' (first | (with_reducible exact Below.refl _ _) | (with_reducible assumption) | (with_reducible refine Below.alloc ?_ ?_ _) | (with_reducible refine Below.drew ?_) | (with_reducible refine below_drewN ?_ _) | (with_reducible refine Below.setCell ?_ ?_ _) | (with_reducible refine Below.trans ?_ (Below.mono (by assumption) ?_)) | omega | (simp; omega) | (simp; done)))); (have hq4_0 := fun o : Nat => hb4.cell (p := ⟨w.heap.size, o, none⟩) (by first | omega | (simp; done) | (simp; omega))); (have hf4_0 := fun o : Nat => hb4.frozen (p := ⟨w.heap.size, o, none⟩) (by first | omega | (simp; done) | (simp; omega))); (have hy4_0 : w.heap.size < w4.heap.size := by omega); clear hb4) | (go_at_call 34; ((with_reducible refine (refIs _ _ _).mono ?_); rintro e w' ⟨rfl, rfl⟩)) | fail)
              go_ret
              exact ⟨rfl, by (repeat' (first | (with_reducible exact Below.refl _ _) | (with_reducible assumption) | (with_reducible refine Below.alloc ?_ ?_ _) | (with_reducible refine Below.drew ?_) | (with_reducible refine below_drewN ?_ _) | (with_reducible refine Below.setCell ?_ ?_ _) | (with_reducible refine Below.trans ?_ (Below.mono (by assumption) ?_)) | omega | (simp; omega) | (simp; done)))⟩
end Go.Proofs.Ytdfpenjhpemokaa.Sx
namespace Go.Proofs.Ytdfpenjhpemokaa
open Go.ChangeShapes Go.WideShapes Go.ChangeAt Go.Deep Go.RowKit in
set_option maxRecDepth 100000 in
theorem walkGridSays {H : Type} (W : World) (base : Nat) (enc : TypeId × Value → H) (v0 v1 v2 : Value) {d0 d1 d2 : DataW H} {p0 p1 p2 : List MemPlace}
    (k0 : Value.okWide Try.prog W .any base 125 v0) (k1 : Value.okWide Try.prog W .any base 3 v1) (k2 : Value.okWide Try.prog W .any base 3 v2)
    (h0 : DataW.Trod enc Try.prog W 0 (fun _ => true) true 125 v0 d0 p0) (_ : DataW.Trod enc Try.prog W 0 (fun _ => true) true 3 v1 d1 p1) (_ : DataW.Trod enc Try.prog W 0 (fun _ => true) true 3 v2 d2 p2) :
    Calls Try.prog 13 #[v0, v1, v2] W fun e W' => e = .returned (.bool true) ∧ Below W.heap.size W W' := by
  obtain ⟨g, h, D, rfl, o, hk, o', hk', oD⟩ := Sx.grid_open Try.underlying125 (by kernel_rfl) (by kernel_rfl) Try.underlying78 (by kernel_rfl) (by kernel_rfl) Try.underlying78 (by kernel_rfl) (by kernel_rfl) Try.underlying123 Try.underlying78 (by kernel_rfl) (by kernel_rfl) (by kernel_rfl) k0 h0
  obtain ⟨x, rfl, _⟩ := okWide_int Try.underlying3 k1
  obtain ⟨y, rfl, _⟩ := okWide_int Try.underlying3 k2
  exact Sx.gridSays_true g h D hk hk' x y W o o' oD
end Go.Proofs.Ytdfpenjhpemokaa
