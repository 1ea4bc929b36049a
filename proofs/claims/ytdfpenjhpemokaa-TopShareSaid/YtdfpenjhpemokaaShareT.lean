/-
  share.parts for any number of surfaces: the contract, and what it makes.
-/
import Derived.Test.YtdfpenjhpemokaaShareP
import Derived.Test.YtdfpenjhpemokaaAct5
import Derived.Deep.OwnRows
import Derived.Deep.Cut
import Derived.Deep.CutRange
import Derived.Outline
import Derived.Deep.RegionHeld3
set_option linter.unusedVariables false
set_option linter.unusedSimpArgs false
namespace Go.Proofs.Ytdfpenjhpemokaa.Sx
open Go.RowKit
theorem ptk_mono (t r is : Int) (o : Bool) {x y : Int} (h : x ≤ y) : ptk t r is o x ≤ ptk t r is o y := by
  unfold ptk
  split <;> omega
theorem ptotS_mono (g : GD) (t r : Int) {x y : Int} (h : x ≤ y) : ∀ n, ptotS g t r x n ≤ ptotS g t r y n
  | 0 => by simp [ptotS]
  | k + 1 => by
    have h1 := ptotS_mono g t r h k
    have h2 := ptk_mono t r (g.fi k 0) (g.fb k 2) h
    simp only [ptotS]
    omega
def psprL (g : GD) (t r sum : Int) : List Int := (List.range g.n).map (pspr g t r sum)
theorem pleft_bd {g : GD} {t r sum : Int} {lv : Int} (h : plvl g t r sum = lv) (k : Nat) : pspr g t r sum k = ptk t r (g.fi k 0) (g.fb k 2) lv ∨ (pspr g t r sum k = ptk t r (g.fi k 0) (g.fb k 2) lv + 1 ∧ ptk t r (g.fi k 0) (g.fb k 2) lv < ptk t r (g.fi k 0) (g.fb k 2) (lv + 1)) := by
  unfold pspr
  rw [h]
  split
  · rename_i hc; exact .inr ⟨rfl, hc.2⟩
  · exact .inl rfl
def gprt (g : GD) (t r : Int) (k : Nat) : Part := if k < g.n ∧ g.fb k 2 = false then some (prlo t r (g.fi k 0), prhi t r (g.fi k 0)) else none
theorem gprt_out {g : GD} {t r : Int} {k : Nat} (ho : g.fb k 2 = true) : gprt g t r k = none := by
  unfold gprt; rw [if_neg (by rw [ho]; rintro ⟨_, h⟩; cases h)]
theorem gprt_in {g : GD} {t r : Int} {k : Nat} (hk : k < g.n) (ho : g.fb k 2 = false) : gprt g t r k = some (prlo t r (g.fi k 0), prhi t r (g.fi k 0)) := by
  unfold gprt; rw [if_pos ⟨hk, ho⟩]
theorem gprt_pat {g : GD} {t r s c : Int} {k : Nat} (hk : k < g.n) (h : pservo t r s c (g.fi k 0) (g.fi k 1) (g.fb k 2) = 0) (x : Int) : pat (gprt g t r k) x = ptk t r (g.fi k 0) (g.fb k 2) x := by
  obtain ⟨⟨a1, a2, a3, a4, a5, a6, a7, a8⟩, b1, b2, b3, b4, _, _⟩ := pservo_0 h
  cases ho : g.fb k 2
  · rw [gprt_in hk ho]
    unfold ptk
    rw [if_neg (by decide)]
    show pclip x (prlo t r _) (prhi t r _) = _
    unfold pclip prlo prhi
    (repeat' split) <;> omega
  · rw [gprt_out ho]
    unfold ptk
    rw [if_pos rfl]
    rfl
theorem gprt_fine {g : GD} {t r s c : Int} (h : ∀ k, k < g.n → pservo t r s c (g.fi k 0) (g.fi k 1) (g.fb k 2) = 0) (k : Nat) : PartFine (gprt g t r k) := by
  by_cases hk : k < g.n
  · obtain ⟨⟨a1, a2, a3, a4, a5, a6, a7, a8⟩, b1, b2, b3, b4, _, _⟩ := pservo_0 (h k hk)
    cases ho : g.fb k 2
    · rw [gprt_in hk ho]
      unfold PartFine prlo prhi
      simp only
      omega
    · rw [gprt_out ho]; trivial
  · unfold gprt
    rw [if_neg (fun h => hk h.1)]
    trivial
theorem ptot_gprt {g : GD} {t r s c : Int} (h : ∀ k, k < g.n → pservo t r s c (g.fi k 0) (g.fi k 1) (g.fb k 2) = 0) (x : Int) : ∀ k, k ≤ g.n → ptot (gprt g t r) x k = ptotS g t r x k
  | 0, _ => rfl
  | k + 1, hk => by
    simp only [ptot, ptotS]
    rw [ptot_gprt h x k (by omega), gprt_pat (by omega) (h k (by omega))]
theorem psm_stick {g : GD} {t r s c : Int} {n k : Nat} (h : psm g t r s c n k ≠ 0) : ∀ j, psm g t r s c n (k + j) = psm g t r s c n k
  | 0 => rfl
  | j + 1 => by
    have ih := psm_stick h j
    show (if psm g t r s c n (k + j) = 0 then _ else psm g t r s c n (k + j)) = _
    rw [ih, if_neg h]
theorem psm_at {g : GD} {t r s c : Int} {n k : Nat} (h : psm g t r s c n k ≠ 0) (hk : k ≤ n) : psm g t r s c n n = psm g t r s c n k := by
  have := psm_stick h (n - k)
  rwa [show k + (n - k) = n by omega] at this
theorem gd_row3 {g : GD} {w : World} (o : g.ok w) (hk : g.ks = [true, true, false]) (hn : 0 < g.n) : ∃ bl off, g.A = some ⟨bl, off, none⟩ ∧ bl < w.heap.size ∧ ∀ i, i < g.n →
    w.cell? ⟨bl, off + i * 3, none⟩ = some (.int .i64 (g.fi i 0)) ∧ w.cell? ⟨bl, off + i * 3 + 1, none⟩ = some (.int .i64 (g.fi i 1)) ∧ w.cell? ⟨bl, off + i * 3 + 2, none⟩ = some (.bool (g.fb i 2)) := by
  obtain ⟨bl, off, e1, e2, e3⟩ := o.cell 0 0 hn (by rw [hk]; decide)
  refine ⟨bl, off, e1, e2, fun i hi => ?_⟩
  have hc : ∀ j, j < 3 → w.cell? ⟨bl, off + (i * 3 + j), none⟩ = some (g.val i j) := fun j hj => by
    obtain ⟨bl', off', e1', _, e3'⟩ := o.cell i j hi (by rw [hk]; exact hj)
    rw [e1] at e1'
    cases e1'
    rw [hk] at e3'
    exact e3'
  have h0 := hc 0 (by omega)
  have h1 := hc 1 (by omega)
  have h2 := hc 2 (by omega)
  unfold GD.val at h0 h1 h2
  rw [hk] at h0 h1 h2
  exact ⟨h0, h1, h2⟩
theorem actReachA (t r s c is bad : Int) (o : Bool) (w : World) : Calls Try.prog 52 #[.agg #[.int .i64 t, .int .i64 r, .int .i64 s, .int .i64 c], .agg #[.int .i64 is, .int .i64 bad, .bool o]] w fun e w' =>
    e = .returned (.tuple #[.agg #[.int .i64 (plo t r s c is bad o), .int .i64 (phi t r s c is bad o)], errV (pservo t r s c is bad o)]) ∧ Below w.heap.size w w' := by
  by_cases h : pservo t r s c is bad o = 0
  · unfold plo phi
    cases o with
    | true =>
      rw [if_neg (by simp), if_neg (by simp), h]
      exact actReach_out t r s c is bad w h
    | false =>
      rw [if_pos ⟨h, rfl⟩, if_pos ⟨h, rfl⟩, h]
      exact actReach_in t r s c is bad _ _ w h rfl rfl
  · unfold plo phi
    rw [if_neg (fun q => h q.1), if_neg (fun q => h q.1)]
    exact actReach_err t r s c is bad o w h
theorem infoPart : (Try.prog.info? 232).map (fun i => (i.zero, i.size, i.bytes)) = some (some .nilIface, 1, 16) := by kernel_rfl
theorem ownsRow_below {w w1 : World} {base : Nat} {e : TypeId} {size : Nat} {v : Value} {n : Nat} {xs : List Value} (h : w.ownsRow base e size v n xs) (hb : Below w.heap.size w w1) : w1.ownsRow base e size v n xs := by
  obtain ⟨h1, h2⟩ := h
  refine ⟨h1, ?_⟩
  rcases h2 with h2 | ⟨g, cap, cur, a1, a2, a3, a4, a5, a6, a7⟩
  · exact .inl h2
  · exact .inr ⟨g, cap, cur, a1, a2, (hb.block g (by rcases Nat.lt_or_ge g w.heap.size with h | h; (exact h); (rw [Array.getElem?_eq_none h] at a3; cases a3))).trans a3, a4, a5, a6, a7⟩
theorem ownsRow_base {w : World} {base base' : Nat} {e : TypeId} {size : Nat} {v : Value} {n : Nat} {xs : List Value} (h : w.ownsRow base e size v n xs) (hb : base' ≤ base) : w.ownsRow base' e size v n xs := by
  obtain ⟨h1, h2⟩ := h
  refine ⟨h1, ?_⟩
  rcases h2 with h2 | ⟨g, cap, cur, a1, a2, a3⟩
  · exact .inl h2
  · exact .inr ⟨g, cap, cur, a1, Nat.le_trans hb a2, a3⟩
def prtL (g : GD) (t r : Int) (k : Nat) : List Value := (List.range k).map fun i => partV (gprt g t r i)
theorem prtL_s (g : GD) (t r : Int) (k : Nat) : prtL g t r (k + 1) = prtL g t r k ++ [partV (gprt g t r k)] := by
  unfold prtL; rw [List.range_succ, List.map_append]; rfl
theorem psm_0 {g : GD} {t r s c : Int} {n : Nat} (h : pactRule t r s c = 0) (h1 : 1 ≤ n) (h2 : n ≤ 4) : psm g t r s c n 0 = 0 := by
  show (if pactRule t r s c = 0 then (if 1 ≤ n ∧ n ≤ 4 then (0 : Int) else 2) else 1) = 0
  rw [if_pos h, if_pos ⟨h1, h2⟩]
theorem psm_1 {g : GD} {t r s c : Int} {n k : Nat} (h : psm g t r s c n k = 0) : psm g t r s c n (k + 1) = pservo t r s c (g.fi k 0) (g.fi k 1) (g.fb k 2) := if_pos h
theorem part_in {g : GD} {t r s c : Int} {k : Nat} (hk : k < g.n) (h : pservo t r s c (g.fi k 0) (g.fi k 1) (g.fb k 2) = 0) (ho : g.fb k 2 = false) : partV (gprt g t r k) = .iface 251 (.agg #[.int .i64 (plo t r s c (g.fi k 0) (g.fi k 1) (g.fb k 2)), .int .i64 (phi t r s c (g.fi k 0) (g.fi k 1) (g.fb k 2))]) := by
  rw [gprt_in hk ho]
  unfold plo phi
  rw [if_pos ⟨h, ho⟩, if_pos ⟨h, ho⟩]
  rfl
theorem part_out {g : GD} {t r : Int} {k : Nat} (ho : g.fb k 2 = true) : partV (gprt g t r k) = .iface 250 (.agg #[]) := by
  rw [gprt_out ho]
  rfl
set_option maxRecDepth 100000 in
set_option maxHeartbeats 1000000 in
theorem shParts_ok (g : GD) (hk : g.ks = [true, true, false]) (b1 : 1 ≤ g.n) (b2 : g.n ≤ 4) (t r s c : Int) (w : World) (o : g.ok w) (hr : pactRule t r s c = 0) :
    Calls Try.prog 156 #[.agg #[.int .i64 t, .int .i64 r, .int .i64 s, .int .i64 c], .slice g.A g.n g.c] w fun e w' =>
      ((pspreadMay g t r s c = 0 ∧ ∃ v, e = .returned (.tuple #[v, .nilIface]) ∧ w'.ownsRow w.heap.size 232 1 v g.n (prtL g t r g.n)) ∨ (pspreadMay g t r s c ≠ 0 ∧ e = .returned (.tuple #[.slice none 0 0, errV (pspreadMay g t r s c)]))) ∧ Below w.heap.size w w' := by
  obtain ⟨bl, off, eA, hbl, hrow⟩ := gd_row3 o hk b1
  have hr2 : (pactRule t r s c != 0) = false := by rw [hr]; rfl
  have HR := Lib.hid hr
  have HW := Lib.hid hrow
  have HN : Hid (pspreadMay g t r s c = psm g t r s c g.n g.n) := rfl
  have HL : Hid (∀ k, k < g.n → k < g.n) := fun _ h => h
  have HX : Hid (∀ k, k < g.n → pservo t r s c (g.fi k 0) (g.fi k 1) (g.fb k 2) = 0 → g.fb k 2 = false → partV (gprt g t r k) = .iface 251 (.agg #[.int .i64 (plo t r s c (g.fi k 0) (g.fi k 1) (g.fb k 2)), .int .i64 (phi t r s c (g.fi k 0) (g.fi k 1) (g.fb k 2))])) := fun k h h1 h2 => part_in h h1 h2
  clear hr hk o hrow
  obtain ⟨i0, hif, hza, hzb, hzc⟩ := info_parts infoPart
  generalize g.n = n at *
  generalize pspreadMay g t r s c = pe at *
  rw [eA]
  go_enter Try.func156, Try.ntmps156
  go_wp2_with (go_at_call 55; ((with_reducible refine (actCheckRule _ _ _ _ _).mono ?_); rintro e w' ⟨rfl, rfl⟩))
  go_loopw [7, 28] (fun v i wr => ∃ k : Nat, k ≤ n ∧ i = .int .i64 k ∧ Hid (psm g t r s c n k = 0) ∧ wr.ownsRow (w.heap.size + 1) 232 1 v k (prtL g t r k) ∧ Below (w.heap.size + 1) (w.alloc (.cells #[.int .i64 t, .int .i64 r, .int .i64 s, .int .i64 c] 53)) wr) (fun _ i _ => n - (intOf i).toNat)
  case atStart => exact ⟨0, Nat.zero_le _, rfl, psm_0 HR.out (by omega) (by omega), World.ownsRow_nil _ _ _ _, Below.alloc (Below.refl _ _) (by simp) _⟩
  case round =>
    obtain ⟨k, hkn, rfl, hz, hown, hbw⟩ := hrel
    have hsz := hbw.size
    simp only [World.size_alloc] at hsz
    have hw0 : Below w.heap.size w wr := ((Below.refl _ _).alloc (Nat.le_refl _) _).trans (hbw.mono (by omega))
    have hR : ∀ i, wr.cell? ⟨w.heap.size, i, none⟩ = (#[.int .i64 t, .int .i64 r, .int .i64 s, .int .i64 c] : Array Value)[i]? := fun i => (hbw.cell (p := ⟨w.heap.size, i, none⟩) (Nat.lt_succ_self _)).trans (World.cell?_alloc_mark w _ _ _ _)
    have hR0 : wr.cell? ⟨w.heap.size, 0, none⟩ = some (.int .i64 t) := hR 0
    have hR1 : wr.cell? ⟨w.heap.size, 1, none⟩ = some (.int .i64 r) := hR 1
    have hR2 : wr.cell? ⟨w.heap.size, 2, none⟩ = some (.int .i64 s) := hR 2
    have hR3 : wr.cell? ⟨w.heap.size, 3, none⟩ = some (.int .i64 c) := hR 3
    clear hR
    have hwl : w.heap.size < wr.heap.size := hsz
    by_cases hlt : k < n
    · have HC := HW.out k hlt
      have hc0 : wr.cell? ⟨bl, off + k * 3, none⟩ = _ := (hw0.cell (p := ⟨bl, _, none⟩) hbl).trans HC.1
      have hc1 : wr.cell? ⟨bl, off + k * 3 + 1, none⟩ = _ := (hw0.cell (p := ⟨bl, _, none⟩) hbl).trans HC.2.1
      have hc2 : wr.cell? ⟨bl, off + k * 3 + 2, none⟩ = _ := (hw0.cell (p := ⟨bl, _, none⟩) hbl).trans HC.2.2
      clear HC
      have hlb : bl < wr.heap.size := by omega
      have Z1 : Hid (psm g t r s c n (k + 1) = pservo t r s c (g.fi k 0) (g.fi k 1) (g.fb k 2)) := psm_1 hz.out
      by_cases hp : pservo t r s c (g.fi k 0) (g.fi k 1) (g.fb k 2) = 0
      · have hp2 : (pservo t r s c (g.fi k 0) (g.fi k 1) (g.fb k 2) != 0) = false := by simpa using hp
        have Z2 : Hid (psm g t r s c n (k + 1) = 0) := Z1.out.trans hp
        cases hf2 : g.fb k 2
        · have X1 := Lib.hid (HX.out k (HL.out k hlt) hp hf2)
          rw [hf2] at hc2 hp2 X1
          clear hp Z1 hf2
          have HA := Lib.hid fun w => actReachA t r s c (g.fi k 0) (g.fi k 1) false w
          generalize g.fi k 0 = f0 at *
          generalize g.fi k 1 = f1 at *
          generalize plo t r s c f0 f1 false = lo at *
          generalize phi t r s c f0 f1 false = hu at *
          go_wp2_with (first | (go_at_call 52; ((with_reducible refine (HA.out _).mono ?_); rintro e w1 ⟨rfl, hb1⟩; have hz1 := hb1.size; simp only [World.size_alloc] at hz1; have hlw1 : wr.heap.size < w1.heap.size := hz1; have hq1 : w1.cell? ⟨wr.heap.size, 2, none⟩ = some (.bool false) := (hb1.cell (p := ⟨wr.heap.size, 2, none⟩) (by simp)).trans (World.cell?_alloc_mark wr _ _ _ 2))) | (at_builtin; go_loud (refine wpList_append_own _ rfl (.tmp 48) (.tmp 51) 226 rfl (w.heap.size + 1) 232 i0 .nilIface 1 16 Try.underlying226 hif hza hzb hzc rfl (by decide) _ _ _ rfl (World.ownsRow.alloc (World.ownsRow.alloc (ownsRow_below (World.ownsRow.alloc hown _) hb1) _) _) ⟨w1.heap.size + 1, 0, none⟩ 1 1 [.iface 251 (.agg #[.int .i64 lo, .int .i64 hu])] rfl rfl ?c1 ?c2 ?c3 ?c4 ?c5 ?_)) | go_in)
          case c1 =>
            intro j u hj
            match j, hj with
            | 0, hj => simp at hj; subst hj; simp [Addr.add]
          case c2 => intro u hu; simp at hu; subst hu; rfl
          case c3 => unfold maxLen; omega
          case c4 => omega
          case c5 => simp; omega
          intro v' w2 hown2 hgrow2 _
          rw [← X1.out, ← prtL_s] at hown2
          have hB2 : Below (w.heap.size + 1) _ w2 := Below.grown (Below.alloc (Below.alloc (Below.trans (Below.alloc hbw (by omega) _) (hb1.mono (by simp; omega))) (by omega) _) (by simp; omega) _) hgrow2 (by simp; omega) (fun q hq => (hown.lt q hq).1)
          clear hgrow2 hown hq1 hb1
          go_wp2
          go_roundw
          case rel => exact ⟨k + 1, by omega, by go_num, Z2, hown2, hB2⟩
          case measure => simp [intOf]; omega
        · have X1 : Hid (partV (gprt g t r k) = .iface 250 (.agg #[])) := part_out hf2
          rw [hf2] at hc2 hp2
          clear hp Z1 hf2
          have HA := Lib.hid fun w => actReachA t r s c (g.fi k 0) (g.fi k 1) true w
          generalize g.fi k 0 = f0 at *
          generalize g.fi k 1 = f1 at *
          generalize plo t r s c f0 f1 true = lo at *
          generalize phi t r s c f0 f1 true = hu at *
          go_wp2_with (first | (go_at_call 52; ((with_reducible refine (HA.out _).mono ?_); rintro e w1 ⟨rfl, hb1⟩; have hz1 := hb1.size; simp only [World.size_alloc] at hz1; have hlw1 : wr.heap.size < w1.heap.size := hz1; have hq1 : w1.cell? ⟨wr.heap.size, 2, none⟩ = some (.bool true) := (hb1.cell (p := ⟨wr.heap.size, 2, none⟩) (by simp)).trans (World.cell?_alloc_mark wr _ _ _ 2))) | (at_builtin; go_loud (refine wpList_append_own _ rfl (.tmp 43) (.tmp 46) 226 rfl (w.heap.size + 1) 232 i0 .nilIface 1 16 Try.underlying226 hif hza hzb hzc rfl (by decide) _ _ _ rfl (World.ownsRow.alloc (World.ownsRow.alloc (ownsRow_below (World.ownsRow.alloc hown _) hb1) _) _) ⟨w1.heap.size + 1, 0, none⟩ 1 1 [.iface 250 (.agg #[])] rfl rfl ?c1 ?c2 ?c3 ?c4 ?c5 ?_)) | go_in)
          case c1 =>
            intro j u hj
            match j, hj with
            | 0, hj => simp at hj; subst hj; simp [Addr.add]
          case c2 => intro u hu; simp at hu; subst hu; rfl
          case c3 => unfold maxLen; omega
          case c4 => omega
          case c5 => simp; omega
          intro v' w2 hown2 hgrow2 _
          rw [← X1.out, ← prtL_s] at hown2
          have hB2 : Below (w.heap.size + 1) _ w2 := Below.grown (Below.alloc (Below.alloc (Below.trans (Below.alloc hbw (by omega) _) (hb1.mono (by simp; omega))) (by omega) _) (by simp; omega) _) hgrow2 (by simp; omega) (fun q hq => (hown.lt q hq).1)
          clear hgrow2 hown hq1 hb1
          go_wp2
          go_roundw
          case rel => exact ⟨k + 1, by omega, by go_num, Z2, hown2, hB2⟩
          case measure => simp [intOf]; omega
      · have hp2 : (pservo t r s c (g.fi k 0) (g.fi k 1) (g.fb k 2) != 0) = true := by simpa using hp
        have HE : Hid (pe = pservo t r s c (g.fi k 0) (g.fi k 1) (g.fb k 2)) := HN.out.trans ((psm_at (by rw [Z1.out]; exact hp) (by omega)).trans Z1.out)
        have HP := Lib.hid hp
        clear hp Z1 HX
        generalize g.fi k 0 = f0 at *
        generalize g.fi k 1 = f1 at *
        generalize g.fb k 2 = f2 at *
        go_wp2_with (go_at_call 52; ((with_reducible refine (actReachA _ _ _ _ _ _ _ _).mono ?_); rintro e w1 ⟨rfl, hb1⟩; have hz1 := hb1.size; simp only [World.size_alloc] at hz1))
        refine bodyPost_ret (v := .tuple #[.slice none 0 0, errV (pservo t r s c f0 f1 f2)]) ?_ rfl ⟨.inr ⟨?_, ?_⟩, ?_⟩
        · simp [results, Try.results156, go_sem]
        · rw [HE.out]; exact HP.out
        · rw [HE.out]
        · (repeat' (first | (with_reducible exact Below.refl _ _) | (with_reducible assumption) | (with_reducible refine Below.alloc ?_ ?_ _) | (with_reducible refine Below.drew ?_) | (with_reducible refine below_drewN ?_ _) | (with_reducible refine Below.setCell ?_ ?_ _) | (with_reducible refine Below.trans ?_ (Below.mono (by assumption) ?_)) | omega | (simp; omega) | (simp; done)))
    · have hkn : k = n := by omega
      subst hkn
      clear HW HX
      go_wp2
      refine bodyPost_ret (v := .tuple #[u7, .nilIface]) ?_ rfl ⟨.inl ⟨?_, ?_⟩, ?_⟩
      · simp [results, Try.results156, go_sem]
      · exact HN.out.trans hz.out
      · exact ⟨u7, rfl, ownsRow_base hown (by omega)⟩
      · exact hw0
end Go.Proofs.Ytdfpenjhpemokaa.Sx
/-
  share.Spread for any number of surfaces: the contract.
-/
namespace Go.Proofs.Ytdfpenjhpemokaa.Sx
open Go.RowKit
theorem shParts_z (g : GD) (hk : g.ks = [true, true, false]) (t r s c : Int) (w : World) (o : g.ok w) (hz : pspreadMay g t r s c = 0) :
    Calls Try.prog 156 #[.agg #[.int .i64 t, .int .i64 r, .int .i64 s, .int .i64 c], .slice g.A g.n g.c] w fun e w' => (∃ b cap, e = .returned (.tuple #[.slice (some ⟨b, 0, none⟩) g.n cap, .nilIface]) ∧ PartCells w' b g.n (gprt g t r) ∧ w.heap.size ≤ b) ∧ Below w.heap.size w w' := by
  obtain ⟨⟨a1, a2, a3, a4, a5, a6, a7, a8⟩, b1, b2, b3⟩ := psm_all _ hz
  refine (shParts_ok g hk b1 b2 t r s c w o (pactRule_of ⟨a1, a2, a3, a4, a5, a6, a7, a8⟩)).mono ?_
  rintro e w' ⟨(⟨_, v, h, hl, hv⟩ | ⟨h, _⟩), hb⟩
  · rcases hv with ⟨_, h0⟩ | ⟨q, cap, cur, rfl, h1, h2, h3, h4, h5, h6⟩
    · omega
    · refine ⟨⟨q, cap, h, ⟨?_, fun i hi => ?_⟩, h1⟩, hb⟩
      · rcases Nat.lt_or_ge q w'.heap.size with h | h
        · exact h
        · rw [Array.getElem?_eq_none h] at h2; cases h2
      · have e1 : cur[i]? = some (partV (gprt g t r i)) := by
          have e2 : (cur.toList.take (g.n * 1))[i]? = cur.toList[i]? := List.getElem?_take_of_lt (by omega)
          rw [h6] at e2
          unfold prtL at e2
          rw [List.getElem?_map, List.getElem?_range hi] at e2
          rw [← Array.getElem?_toList, ← e2]
          rfl
        simp [World.cell?, h2, e1]
  · exact absurd hz h
theorem gd_okb {g : GD} {w w' : World} (h : g.ok w) (hb : Below w.heap.size w w') : g.ok w' :=
  ⟨h.n, fun i j hi hj => by
    obtain ⟨bl, off, e1, e2, e3⟩ := h.cell i j hi hj
    exact ⟨bl, off, e1, Nat.lt_of_lt_of_le e2 hb.size, (hb.cell (p := ⟨bl, _, none⟩) e2).trans e3⟩, h.b64⟩
def qleft (ps : Nat → Part) (L l0 : Int) : Nat → Int
  | 0 => l0
  | k + 1 => if 0 < qleft ps L l0 k ∧ pat (ps k) L < pat (ps k) (L + 1) then qleft ps L l0 k - 1 else qleft ps L l0 k
def qout (ps : Nat → Part) (L l0 : Int) (k : Nat) : Int :=
  if 0 < qleft ps L l0 k ∧ pat (ps k) L < pat (ps k) (L + 1) then pat (ps k) L + 1 else pat (ps k) L
theorem qleft_bd (ps : Nat → Part) (L l0 : Int) (h : -100000 ≤ l0 ∧ l0 ≤ 100000) : ∀ k, -100000 ≤ qleft ps L l0 k ∧ qleft ps L l0 k ≤ 100000
  | 0 => h
  | k + 1 => by
    have := qleft_bd ps L l0 h k
    simp only [qleft]
    split <;> omega
theorem qlevN_bd (tot : Int → Int) (sum lo : Int) : ∀ k : Nat, lo ≤ plevN tot sum lo k ∧ plevN tot sum lo k ≤ lo + k
  | 0 => by simp [plevN]
  | k + 1 => by
    have := qlevN_bd tot sum lo k
    simp only [plevN]
    split <;> (push_cast; omega)
theorem qlev_bd (tot : Int → Int) (sum : Int) {m : Int} (h : 0 ≤ m) : -m ≤ plev tot sum m ∧ plev tot sum m ≤ m := by
  have := qlevN_bd tot sum (-m) (2 * m).toNat
  unfold plev
  omega
theorem qclip_bd {x a b : Int} (ha : -4000 ≤ a ∧ a ≤ 4000) (hb : -4000 ≤ b ∧ b ≤ 4000) : -4000 ≤ pclip x a b ∧ pclip x a b ≤ 4000 := by
  unfold pclip
  (repeat' split) <;> omega
theorem fixClip_as (x lo hi m : Int) (w : World) (h : Unit → m = pclip x lo hi) : Calls Try.prog 133 #[.int .i64 x, .int .i64 lo, .int .i64 hi] w fun e w' => e = .returned (.int .i64 m) ∧ w = w' := by
  rw [h ()]; exact fixClip x lo hi w
theorem shLevel_as (m b c n : Nat) (ps : Nat → Part) (sum most L : Int) (w : World) (hn : n ≤ 1000) (h0 : 0 ≤ most) (h1 : most ≤ 1000) (hf : ∀ k, PartFine (ps k)) (hc : PartCells w b n ps) (hl : m < w.heap.size) (hm : w.cell? ⟨m, 0, none⟩ = some (.slice (some ⟨b, 0, none⟩) n c)) (h : Unit → L = plev (fun x => ptot ps x n) sum most) :
    Calls Try.prog 158 #[.int .i64 sum, .int .i64 most, .func (.func 159) #[] #[.pointer (some ⟨m, 0, none⟩)]] w fun e w' => e = .returned (.int .i64 L) ∧ Below w.heap.size w w' := by
  rw [h ()]; exact shLevel m b c n ps sum most w hn h0 h1 hf hc hl hm
theorem shGone_as (x v : Int) (w : World) (h : pat none x = v) : Calls Try.prog 214 #[.agg #[], .int .i64 x] w fun e w' => e = .returned (.int .i64 v) ∧ Below w.heap.size w w' := by
  rw [← h]; exact shGone x w
theorem shAble_as (lo hi x v : Int) (w : World) (h : pat (some (lo, hi)) x = v) : Calls Try.prog 215 #[.agg #[.int .i64 lo, .int .i64 hi], .int .i64 x] w fun e w' => e = .returned (.int .i64 v) ∧ Below w.heap.size w w' := by
  rw [← h]; exact shAble lo hi x w
theorem row_put {q : Nat → Int} {k : Nat} {V : Int} (h : q k = V) (j : Nat) : (if j = k then Value.int .i64 V else .int .i64 (if j < k then q j else 0)) = .int .i64 (if j < k + 1 then q j else 0) := by
  by_cases e : j = k
  · subst e; rw [if_pos rfl, if_pos (Nat.lt_succ_self _), h]
  · rw [if_neg e]
    by_cases e2 : j < k
    · rw [if_pos e2, if_pos (by omega)]
    · rw [if_neg e2, if_neg (by omega)]
theorem row_put2 {q : Nat → Int} {k : Nat} {V : Int} {v : Value} (h : q k = V) (j : Nat) : (if j = k then Value.int .i64 V else if j = k then v else .int .i64 (if j < k then q j else 0)) = .int .i64 (if j < k + 1 then q j else 0) := by
  rw [← row_put h j]
  by_cases e : j = k
  · rw [if_pos e, if_pos e]
  · rw [if_neg e, if_neg e, if_neg e]
theorem infoInt : (Try.prog.info? 3).map (fun i => (i.zero, i.size, i.bytes)) = some (some (.int .i64 0), 1, 8) := by kernel_rfl
set_option maxRecDepth 100000 in
set_option maxHeartbeats 1000000 in
theorem shSpread_q (g : GD) (hk : g.ks = [true, true, false]) (t r s c x : Int) (w : World) (o : g.ok w) (hz : pspreadMay g t r s c = 0) (bx : B64 x) (ps : Nat → Part) (hps : gprt g t r = ps) (X L : Int) (hX : X = pclip x (ptot ps (-t) g.n) (ptot ps t g.n)) (hL : L = plev (fun y => ptot ps y g.n) X t) :
    Calls Try.prog 90 #[.agg #[.int .i64 t, .int .i64 r, .int .i64 s, .int .i64 c], .slice g.A g.n g.c, .int .i64 x] w fun e w' =>
      (∃ b, e = .returned (.tuple #[.slice (some ⟨b, 0, none⟩) g.n g.n, .nilIface]) ∧ w.heap.size ≤ b ∧ w'.rowIs b 3 g.n (fun k => .int .i64 (qout ps L (X - ptot ps L g.n) k))) ∧ Below w.heap.size w w' := by
  obtain ⟨⟨a1, a2, a3, a4, a5, a6, a7, a8⟩, b1, b2, b3⟩ := psm_all _ hz
  have hf : ∀ k, PartFine (ps k) := fun k => hps ▸ gprt_fine b3 k
  have HP := Lib.hid fun (w : World) (o : g.ok w) => shParts_z g hk t r s c w o hz
  have HO := Lib.hid fun (o' : Obj) => gd_okb o (w' := w.alloc o') (Below.alloc (Below.refl _ _) (Nat.le_refl _) _)
  rw [hps] at HP
  clear hps hk o hz b3
  have hwn : IntKind.wrap .i64 (-t) = -t := IntWalk.i64_in _ ⟨by omega, by omega⟩
  have q1 := ptot_bd hf (-t) g.n
  have q2 := ptot_bd hf t g.n
  have q3 := ptot_bd hf L g.n
  have x1 : -4000 ≤ X ∧ X ≤ 4000 := by rw [hX]; exact qclip_bd (by omega) (by omega)
  have l1 : -t ≤ L ∧ L ≤ t := by rw [hL]; exact qlev_bd _ _ (by omega)
  have hwL : IntKind.wrap .i64 (L + 1) = L + 1 := IntWalk.i64_in _ ⟨by omega, by omega⟩
  have hT : -4000 ≤ ptot ps L g.n ∧ ptot ps L g.n ≤ 4000 := by omega
  have HF := Lib.hid hf
  have HX := Lib.hid hX
  have HL := Lib.hid hL
  clear hf hX hL q1 q2 q3
  generalize hn : g.n = n at *
  clear hn
  go_enter Try.func90, Try.ntmps90
  go_upto_region 4 with (go_at_call 156; ((with_reducible refine (HP.out _ (HO.out _)).mono ?_); rintro e w1 ⟨⟨bb, cap, rfl, hpc, hbb⟩, hb1⟩; have hz1 := hb1.size; simp only [World.size_alloc] at hz1 hbb))
  refine wp_world (fun ω => Below w.heap.size w ω ∧ ω.cell? ⟨w.heap.size, 0, none⟩ = some (.int .i64 t) ∧ ω.cell? ⟨w1.heap.size, 0, none⟩ = some (.slice (some ⟨bb, 0, none⟩) n cap) ∧ w1.heap.size < ω.heap.size ∧ PartCells ω bb n ps) ⟨by (repeat' (first | (with_reducible exact Below.refl _ _) | (with_reducible assumption) | (with_reducible refine Below.alloc ?_ ?_ _) | (with_reducible refine Below.drew ?_) | (with_reducible refine below_drewN ?_ _) | (with_reducible refine Below.setCell ?_ ?_ _) | (with_reducible refine Below.trans ?_ (Below.mono (by assumption) ?_)) | omega | (simp; omega) | (simp; done))), cell_alloc_keep ((hb1.cell (p := ⟨w.heap.size, 0, none⟩) (by simp)).trans (World.cell?_alloc_mark w _ _ _ 0)), cell_new rfl rfl, by simp, hpc.below (Below.alloc (Below.refl _ _) (Nat.le_refl _) _)⟩ ?_
  rintro w2 ⟨hB2, hR0, hM, hml, hC⟩
  clear hb1 hpc
  have hwm : w.heap.size < w1.heap.size := by omega
  generalize w1.heap.size = m at *
  have hw2 : w.heap.size < w2.heap.size := by omega
  have HC := Lib.hid hC
  have hbl := hC.1
  clear hC
  go_region_held3 (fun ω => Below w2.heap.size w2 ω ∧ ω.cell? ⟨w.heap.size, 0, none⟩ = some (.int .i64 t) ∧ ω.cell? ⟨m, 0, none⟩ = some (.slice (some ⟨bb, 0, none⟩) n cap)) (refine ⟨by (repeat' (first | (with_reducible exact Below.refl _ _) | (with_reducible assumption) | (with_reducible refine Below.alloc ?_ ?_ _) | (with_reducible refine Below.drew ?_) | (with_reducible refine below_drewN ?_ _) | (with_reducible refine Below.setCell ?_ ?_ _) | (with_reducible refine Below.trans ?_ (Below.mono (by assumption) ?_)) | omega | (simp; omega) | (simp; done))), ?_, ?_⟩ <;> (repeat' (first | (with_reducible assumption) | (with_reducible refine cell_alloc_keep ?_) | (with_reducible refine cell_drew_keep ?_) | (with_reducible refine cell_drewN_keep ?_) | (with_reducible refine cell_below (by assumption) ?_ ?_) | omega | (simp; done) | (simp; omega)))) (first | (go_at_call 157; ((with_reducible refine (shTotal _ _ _ _ _ _ (by omega) HF.out (HC.out.below (by (repeat' (first | (with_reducible exact Below.refl _ _) | (with_reducible assumption) | (with_reducible refine Below.alloc ?_ ?_ _) | (with_reducible refine Below.drew ?_) | (with_reducible refine below_drewN ?_ _) | (with_reducible refine Below.setCell ?_ ?_ _) | (with_reducible refine Below.trans ?_ (Below.mono (by assumption) ?_)) | omega | (simp; omega) | (simp; done)))))).mono ?_); rintro e w3 ⟨rfl, hb3⟩; have hz3 := hb3.size; (repeat (first | simp only [World.size_alloc] at hz3 | simp only [World.size_drew] at hz3 | simp only [World.size_setCell] at hz3)))) | (go_at_call 133; ((with_reducible refine (fixClip_as _ _ _ X _ (fun _ => HX.out)).mono ?_); rintro e w3 ⟨rfl, rfl⟩)))
  have hH : Below w2.heap.size w2 w3 ∧ w3.cell? ⟨w.heap.size, 0, none⟩ = some (.int .i64 t) ∧ w3.cell? ⟨m, 0, none⟩ = some (.slice (some ⟨bb, 0, none⟩) n cap) := by assumption
  refine exit_world (fun ω => Below w.heap.size w ω ∧ ω.cell? ⟨w.heap.size, 0, none⟩ = some (.int .i64 t) ∧ ω.cell? ⟨m, 0, none⟩ = some (.slice (some ⟨bb, 0, none⟩) n cap) ∧ m < ω.heap.size ∧ PartCells ω bb n ps) ⟨hB2.trans (hH.1.mono (by omega)), hH.2.1, hH.2.2, Nat.lt_of_lt_of_le hml hH.1.size, HC.out.below hH.1⟩ ?_
  rintro w4 ⟨hB4, hR4, hM4, hml4, hC4⟩
  clear hb3 hH
  rename_i hHeld
  clear hHeld hB2 hR0 hM hml HC
  have HC := Lib.hid hC4
  have hbl4 := hC4.1
  clear hC4
  go_upto_region 7 with (first | (go_at_call 158; ((with_reducible refine (shLevel_as _ _ _ _ _ _ _ L _ (by omega) (by omega) (by omega) HF.out HC.out hml4 hM4 (fun _ => HL.out)).mono ?_); rintro e w5 ⟨rfl, hb5⟩; have hz5 := hb5.size; have hM5 := (hb5.cell (p := ⟨m, 0, none⟩) hml4).trans hM4; have hml5 : m < w5.heap.size := by omega)) | (go_at_call 157; ((with_reducible refine (shTotal _ _ _ _ _ _ (by omega) HF.out (HC.out.below hb5)).mono ?_); rintro e w6 ⟨rfl, hb6⟩; have hz6 := hb6.size; have hM6 := (hb6.cell (p := ⟨m, 0, none⟩) hml5).trans hM5; have hml6 : m < w6.heap.size := by omega)))
  have hmk := run_make_row' (P := Try.prog) 78 3 (.int .i64 0) 8 Try.underlying78 infoInt rfl .i64 .i64 n (by omega) (by omega)
  go_upto_region 8 with fail
  clear hmk
  have hcb : bb < w6.heap.size := by omega
  refine wp_world (fun ω => w6.heap.size < ω.heap.size ∧ Below w.heap.size w ω ∧ ω.cell? ⟨m, 0, none⟩ = some (.slice (some ⟨bb, 0, none⟩) n cap) ∧ PartCells ω bb n ps ∧ ω.rowIs w6.heap.size 3 n (fun _ => .int .i64 0)) ⟨by simp, by (repeat' (first | (with_reducible exact Below.refl _ _) | (with_reducible assumption) | (with_reducible refine Below.alloc ?_ ?_ _) | (with_reducible refine Below.drew ?_) | (with_reducible refine below_drewN ?_ _) | (with_reducible refine Below.setCell ?_ ?_ _) | (with_reducible refine Below.trans ?_ (Below.mono (by assumption) ?_)) | omega | (simp; omega) | (simp; done))), cell_alloc_keep hM6, (HC.out.below (hb5.trans (hb6.mono (by omega)))).below (Below.alloc (Below.refl _ _) (Nat.le_refl _) _), World.rowIs_made _ _ _ _⟩ ?_
  rintro w7 ⟨hs7, hB7, hM7, hC7, hrow7⟩
  have hwo : w.heap.size < w6.heap.size := by omega
  clear hb5 hb6 hM5 hM6 hM4 hB4 hR4
  generalize w6.heap.size = ob at *
  have HC7 := Lib.hid hC7
  have HR7 := Lib.hid hrow7
  clear hC7 HC hrow7 hz5 hz6
  have hmo : m < ob := by omega
  generalize hl0 : X - ptot ps L n = l0 at *
  have hl1 : -100000 ≤ l0 ∧ l0 ≤ 100000 := by omega
  have HL0 := Lib.hid hl0
  clear hl0
  go_wp2_with fail
  go_loopw [11, 50] (fun l i wr => ∃ k : Nat, k ≤ n ∧ i = .int .i64 k ∧ l = .int .i64 (qleft ps L l0 k) ∧ Hid (wr.rowIs ob 3 n (fun j => .int .i64 (if j < k then qout ps L l0 j else 0))) ∧ Below ob w7 wr) (fun _ i _ => n - (intOf i).toNat)
  case atStart => exact ⟨0, Nat.zero_le _, rfl, rfl, HR7.out.congr (fun j _ => by rw [if_neg (Nat.not_lt_zero _)]), Below.refl _ _⟩
  case round =>
    obtain ⟨k, hkn, rfl, rfl, hrow, hbw⟩ := hrel
    have hsz := hbw.size
    by_cases hlt : k < n
    · have hcc : wr.cell? ⟨bb, k, none⟩ = some (partV (ps k)) := (hbw.cell (p := ⟨bb, k, none⟩) hcb).trans (HC7.out.2 k hlt)
      have hoc : wr.cell? ⟨ob, k, none⟩ = some (.int .i64 0) := (hrow.out.cell hlt).trans (by rw [if_neg (Nat.lt_irrefl k)])
      have hof : wr.frozen? ⟨ob, k, none⟩ = false := hrow.out.frozen k
      have hos := hrow.out.lt
      have hlb := qleft_bd ps L l0 hl1 k
      have hl : Hid (qleft ps L l0 (k + 1) = if 0 < qleft ps L l0 k ∧ pat (ps k) L < pat (ps k) (L + 1) then qleft ps L l0 k - 1 else qleft ps L l0 k) := rfl
      have hq : Hid (qout ps L l0 k = if 0 < qleft ps L l0 k ∧ pat (ps k) L < pat (ps k) (L + 1) then pat (ps k) L + 1 else pat (ps k) L) := rfl
      have hpb1 := pat_bd (HF.out k) L
      have hpb2 := pat_bd (HF.out k) (L + 1)
      generalize ps k = p at *
      generalize hv0 : pat p L = v0 at *
      generalize hv1 : pat p (L + 1) = v1 at *
      generalize qleft ps L l0 k = lk at *
      have HV0 := Lib.hid hv0
      have HV1 := Lib.hid hv1
      clear hv0 hv1
      rcases p with _ | ⟨lo, hu⟩
      all_goals
        simp only [partV] at hcc
        go_upto_region 12 with (first | (go_at_call 214; refine (shGone_as _ v0 _ HV0.out).mono ?_; rintro e w8 ⟨rfl, hb8⟩; have hz8 := hb8.size; have hoc8 := (hb8.cell (p := ⟨ob, k, none⟩) hos).trans hoc; have hof8 := (hb8.frozen (p := ⟨ob, k, none⟩) hos).trans hof) | (go_at_call 215; refine (shAble_as _ _ _ v0 _ HV0.out).mono ?_; rintro e w8 ⟨rfl, hb8⟩; have hz8 := hb8.size; have hoc8 := (hb8.cell (p := ⟨ob, k, none⟩) hos).trans hoc; have hof8 := (hb8.frozen (p := ⟨ob, k, none⟩) hos).trans hof))
        refine wp_world (fun ω => ob < ω.heap.size ∧ Below ob w7 ω ∧ ω.cell? ⟨ob, k, none⟩ = some (.int .i64 v0) ∧ ω.frozen? ⟨ob, k, none⟩ = false ∧ Hid (ω.rowIs ob 3 n (fun j => if j = k then .int .i64 v0 else .int .i64 (if j < k then qout ps L l0 j else 0)))) ⟨by simp; omega, (hbw.trans (hb8.mono (by omega))).setCell (Nat.le_refl _) _, World.cell?_setCell_same _ _ _ hoc8, (World.frozen?_setCell _ _ _ _).trans hof8, (hrow.out.of_block (hb8.block ob hos)).set k _⟩ ?_
        rintro w9 ⟨hs9, hB9, hc9, hf9, hr9⟩
        clear hb8 hoc8 hof8 hbw hrow hoc hof hcc hz8
        clear hsz hos w8 wr
        by_cases c1 : 0 < lk
        · have cd : decide (0 < lk) = true := decide_eq_true c1
          go_region_held3 (fun ω => Below w9.heap.size w9 ω ∧ ω.cell? ⟨ob, k, none⟩ = some (.int .i64 v0)) (refine ⟨by (repeat' (first | (with_reducible exact Below.refl _ _) | (with_reducible assumption) | (with_reducible refine Below.alloc ?_ ?_ _) | (with_reducible refine Below.drew ?_) | (with_reducible refine below_drewN ?_ _) | (with_reducible refine Below.setCell ?_ ?_ _) | (with_reducible refine Below.trans ?_ (Below.mono (by assumption) ?_)) | omega | (simp; omega) | (simp; done))), ?_⟩ <;> (repeat' (first | (with_reducible assumption) | (with_reducible refine cell_alloc_keep ?_) | (with_reducible refine cell_drew_keep ?_) | (with_reducible refine cell_drewN_keep ?_) | (with_reducible refine cell_below (by assumption) ?_ ?_) | omega | (simp; done) | (simp; omega)))) (first | (go_at_call 214; refine (shGone_as _ v1 _ HV1.out).mono ?_; rintro e w10 ⟨rfl, hb10⟩; have hz10 := hb10.size; (repeat (first | simp only [World.size_alloc] at hz10 | simp only [World.size_drew] at hz10 | simp only [World.size_setCell] at hz10))) | (go_at_call 215; refine (shAble_as _ _ _ v1 _ HV1.out).mono ?_; rintro e w10 ⟨rfl, hb10⟩; have hz10 := hb10.size; (repeat (first | simp only [World.size_alloc] at hz10 | simp only [World.size_drew] at hz10 | simp only [World.size_setCell] at hz10))))
          have hH : Below w9.heap.size w9 w10 ∧ w10.cell? ⟨ob, k, none⟩ = some (.int .i64 v0) := by assumption
          have hf10 : w10.frozen? ⟨ob, k, none⟩ = false := (hH.1.frozen (p := ⟨ob, k, none⟩) hs9).trans hf9
          have hc10 := hH.2
          have hr10 : Hid (w10.rowIs ob 3 n (fun j => if j = k then .int .i64 v0 else .int .i64 (if j < k then qout ps L l0 j else 0))) := hr9.out.of_block (hH.1.block ob hs9)
          have hB10 : Below ob w7 w10 := hB9.trans (hH.1.mono (by omega))
          have hs10 : ob < w10.heap.size := Nat.lt_of_lt_of_le hs9 hH.1.size
          clear hH hb10 hr9 hB9 hc9 hf9
          by_cases c2 : v0 < v1
          · have E1 : Hid (qleft ps L l0 (k + 1) = lk - 1) := hl.out.trans (if_pos ⟨c1, c2⟩)
            have E2 : Hid (qout ps L l0 k = v0 + 1) := hq.out.trans (if_pos ⟨c1, c2⟩)
            go_wp2_with fail
            go_roundw
            case rel => exact ⟨k + 1, by omega, by go_num, by rw [E1.out], (hr10.out.set k _).congr (fun j _ => row_put2 E2.out j), hB10.setCell (Nat.le_refl _) _⟩
            case measure => simp [intOf]; omega
          · have E1 : Hid (qleft ps L l0 (k + 1) = lk) := hl.out.trans (if_neg (fun h => c2 h.2))
            have E2 : Hid (qout ps L l0 k = v0) := hq.out.trans (if_neg (fun h => c2 h.2))
            go_wp2_with fail
            go_roundw
            case rel => exact ⟨k + 1, by omega, by go_num, by rw [E1.out], hr10.out.congr (fun j _ => row_put E2.out j), hB10⟩
            case measure => simp [intOf]; omega
        · have cd : decide (0 < lk) = false := decide_eq_false c1
          have c2 : lk ≤ 0 := by omega
          go_region
          have E1 : Hid (qleft ps L l0 (k + 1) = lk) := hl.out.trans (if_neg (fun h => c1 h.1))
          have E2 : Hid (qout ps L l0 k = v0) := hq.out.trans (if_neg (fun h => c1 h.1))
          go_wp2_with fail
          go_roundw
          case rel => exact ⟨k + 1, by omega, by go_num, by rw [E1.out], hr9.out.congr (fun j _ => row_put E2.out j), by (repeat' (first | (with_reducible exact Below.refl _ _) | (with_reducible assumption) | (with_reducible refine Below.alloc ?_ ?_ _) | (with_reducible refine Below.drew ?_) | (with_reducible refine below_drewN ?_ _) | (with_reducible refine Below.setCell ?_ ?_ _) | (with_reducible refine Below.trans ?_ (Below.mono (by assumption) ?_)) | omega | (simp; omega) | (simp; done)))⟩
          case measure => simp [intOf]; omega
    · have hkn : k = n := by omega
      subst hkn
      go_wp2_with fail
      refine bodyPost_ret (v := .tuple #[.slice (some ⟨ob, 0, none⟩) k k, .nilIface]) ?_ rfl ⟨⟨ob, rfl, by omega, hrow.out.congr (fun j hj => by rw [if_pos hj, HL0.out])⟩, hB7.trans (hbw.mono (by omega))⟩
      simp [results, Try.results90, go_sem]
theorem qleft_eq {g : GD} {t r s c : Int} (h : ∀ k, k < g.n → pservo t r s c (g.fi k 0) (g.fi k 1) (g.fb k 2) = 0) (x : Int) : ∀ k, k ≤ g.n → qleft (gprt g t r) (plvl g t r x) (pclipS g t r x - ptotS g t r (plvl g t r x) g.n) k = pleft g t r x k
  | 0, _ => rfl
  | k + 1, hk => by
    simp only [qleft, pleft]
    rw [qleft_eq h x k (by omega), gprt_pat (by omega) (h k (by omega)), gprt_pat (by omega) (h k (by omega))]
theorem qout_eq {g : GD} {t r s c : Int} (h : ∀ k, k < g.n → pservo t r s c (g.fi k 0) (g.fi k 1) (g.fb k 2) = 0) (x : Int) (k : Nat) (hk : k < g.n) : qout (gprt g t r) (plvl g t r x) (pclipS g t r x - ptotS g t r (plvl g t r x) g.n) k = pspr g t r x k := by
  unfold qout pspr
  rw [qleft_eq h x k (by omega), gprt_pat hk (h k hk), gprt_pat hk (h k hk)]
theorem newList_row {w : World} {b n0 : Nat} {T : TypeId} {n : Nat} {f : Nat → Int} (h : w.rowIs b T n (fun k => .int .i64 (f k))) (hb : n0 ≤ b) : NewList T n0 w ((List.range n).map f) (.slice (some ⟨b, 0, none⟩) n n) := by
  obtain ⟨c, h1, h2, h3⟩ := h
  refine ⟨b, n, c, by simp, hb, h1, h2, by simp [h2], fun i x hi => ?_⟩
  rw [List.getElem?_map] at hi
  by_cases hl : i < n
  · rw [List.getElem?_range hl] at hi
    cases hi
    exact h3 i hl
  · rw [List.getElem?_eq_none (by simp; omega)] at hi
    cases hi
theorem shSpread_z (g : GD) (hk : g.ks = [true, true, false]) (t r s c x : Int) (w : World) (o : g.ok w) (hz : pspreadMay g t r s c = 0) (bx : B64 x) :
    Calls Try.prog 90 #[.agg #[.int .i64 t, .int .i64 r, .int .i64 s, .int .i64 c], .slice g.A g.n g.c, .int .i64 x] w fun e w' => (∃ v, e = .returned (.tuple #[v, .nilIface]) ∧ NewList 3 w.heap.size w' (psprL g t r x) v) ∧ Below w.heap.size w w' := by
  obtain ⟨⟨a1, a2, a3, a4, a5, a6, a7, a8⟩, b1, b2, b3⟩ := psm_all _ hz
  have e1 : pclipS g t r x = pclip x (ptot (gprt g t r) (-t) g.n) (ptot (gprt g t r) t g.n) := by
    rw [ptot_gprt b3 _ _ (Nat.le_refl _), ptot_gprt b3 _ _ (Nat.le_refl _)]
    exact pclip_min _ _ _ (ptotS_mono g t r (by omega) g.n)
  have e2 : plvl g t r x = plev (fun y => ptot (gprt g t r) y g.n) (pclipS g t r x) t := by
    unfold plvl plevS
    congr 1
    funext y
    exact (ptot_gprt b3 y _ (Nat.le_refl _)).symm
  refine (shSpread_q g hk t r s c x w o hz bx _ rfl _ _ e1 e2).mono ?_
  rintro e w' ⟨⟨b, rfl, hb, hr⟩, hB⟩
  refine ⟨⟨_, rfl, ?_⟩, hB⟩
  have e3 : psprL g t r x = (List.range g.n).map fun k => qout (gprt g t r) (plvl g t r x) (pclipS g t r x - ptot (gprt g t r) (plvl g t r x) g.n) k := by
    unfold psprL
    refine List.map_congr_left fun i hi => ?_
    rw [ptot_gprt b3 _ _ (Nat.le_refl _)]
    exact (qout_eq b3 x i (List.mem_range.1 hi)).symm
  rw [e3]
  exact newList_row hr hb
end Go.Proofs.Ytdfpenjhpemokaa.Sx
