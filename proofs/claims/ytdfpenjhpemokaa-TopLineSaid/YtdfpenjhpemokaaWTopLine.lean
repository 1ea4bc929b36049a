/-
  The law TopLine walked.
-/
import Derived.Test.YtdfpenjhpemokaaTopLineRun
import Derived.Test.YtdfpenjhpemokaaRow
import Derived.Test.YtdfpenjhpemokaaFrame
set_option linter.unusedVariables false
set_option linter.unusedSimpArgs false
namespace Go.Proofs.Ytdfpenjhpemokaa.Sx
open Go.RowKit
theorem tAArgs_ok (g d : GD) (hk : g.ks = [true]) (hk' : d.ks = [true]) (lo hi : Int) (b0 : B64 lo) (b1 : B64 hi) (w : World) (o : g.ok w) (o' : d.ok w) (q1 : (21 : Int) ≤ g.n) (q2 : (g.n : Int) ≤ 9223372036854775807) (q3 : (0 : Int) ≤ d.n) (q4 : (d.n : Int) ≤ 9223372036854775807) {ρ : Env} (h : Jm ovFn ovFb (ltwo g d) (fun n => match n with | 4 => (g.n : Int) | 6 => (d.n : Int) | 20 => lo | 21 => hi | _ => 0) (fun _ => false) ρ) :
    SV.okL ρ (· < 0) tAArgs ∧ Mem ρ (· < w.heap.size) w ∧ SV.denL ρ ⟨fun _ => 0, fun _ => 0, fun _ => 0⟩ tAArgs = [.agg #[.slice g.A g.n g.c, .slice d.A d.n d.c], .int .i64 lo, .int .i64 hi] := by
  have hG := ltwo_ok o o'
  have hks := ltwo_ks hk hk'
  have e20 : ρ.iv 20 = lo := h.at_ 20 rfl
  have e21 : ρ.iv 21 = hi := h.at_ 21 rfl
  obtain ⟨s0, t0⟩ := h.std.osl hG (k := 0) (sh := [.int .i64 (-9223372036854775808) 9223372036854775807]) (by rw [hks]; rfl) (by rw [hks]; decide) (e := .v 4) (lo := 21) (hi := 9223372036854775807) (show ρ.iv 4 = ((ltwo g d 0).n : Int) from h.at_ 4 rfl) (by decide) q1 q2 (· < 0) ⟨fun _ => 0, fun _ => 0, fun _ => 0⟩
  obtain ⟨s1, t1⟩ := h.std.osl hG (k := 1) (sh := [.int .i64 (-9223372036854775808) 9223372036854775807]) (by rw [hks]; rfl) (by rw [hks]; decide) (e := .v 6) (lo := 0) (hi := 9223372036854775807) (show ρ.iv 6 = ((ltwo g d 1).n : Int) from h.at_ 6 rfl) (by decide) q3 q4 (· < 0) ⟨fun _ => 0, fun _ => 0, fun _ => 0⟩
  refine ⟨?_, h.mem hG, ?_⟩
  · unfold tAArgs
    simp only [SV.okL, SV.ok, R.ok, E.i, e20, e21]
    exact ⟨⟨s0, s1, trivial⟩, b0, b1, trivial⟩
  · unfold tAArgs
    simp only [SV.denL, den_agg, den_int, E.i, e20, e21, t0, t1]
    rfl
theorem tBArgs_ok (g d : GD) (hk : g.ks = [true]) (hk' : d.ks = [true]) (lo hi : Int) (b0 : B64 lo) (b1 : B64 hi) (w : World) (o : g.ok w) (o' : d.ok w) (q1 : (0 : Int) ≤ g.n) (q2 : (g.n : Int) ≤ 20) (q3 : (0 : Int) ≤ d.n) (q4 : (d.n : Int) ≤ 9223372036854775807) {ρ : Env} (h : Jm ovFn ovFb (ltwo g d) (fun n => match n with | 4 => (g.n : Int) | 6 => (d.n : Int) | 20 => lo | 21 => hi | _ => 0) (fun _ => false) ρ) :
    SV.okL ρ (· < 0) tBArgs ∧ Mem ρ (· < w.heap.size) w ∧ SV.denL ρ ⟨fun _ => 0, fun _ => 0, fun _ => 0⟩ tBArgs = [.agg #[.slice g.A g.n g.c, .slice d.A d.n d.c], .int .i64 lo, .int .i64 hi] := by
  have hG := ltwo_ok o o'
  have hks := ltwo_ks hk hk'
  have e20 : ρ.iv 20 = lo := h.at_ 20 rfl
  have e21 : ρ.iv 21 = hi := h.at_ 21 rfl
  obtain ⟨s0, t0⟩ := h.std.osl hG (k := 0) (sh := [.int .i64 (-9223372036854775808) 9223372036854775807]) (by rw [hks]; rfl) (by rw [hks]; decide) (e := .v 4) (lo := 0) (hi := 20) (show ρ.iv 4 = ((ltwo g d 0).n : Int) from h.at_ 4 rfl) (by decide) q1 q2 (· < 0) ⟨fun _ => 0, fun _ => 0, fun _ => 0⟩
  obtain ⟨s1, t1⟩ := h.std.osl hG (k := 1) (sh := [.int .i64 (-9223372036854775808) 9223372036854775807]) (by rw [hks]; rfl) (by rw [hks]; decide) (e := .v 6) (lo := 0) (hi := 9223372036854775807) (show ρ.iv 6 = ((ltwo g d 1).n : Int) from h.at_ 6 rfl) (by decide) q3 q4 (· < 0) ⟨fun _ => 0, fun _ => 0, fun _ => 0⟩
  refine ⟨?_, h.mem hG, ?_⟩
  · unfold tBArgs
    simp only [SV.okL, SV.ok, R.ok, E.i, e20, e21]
    exact ⟨⟨s0, s1, trivial⟩, b0, b1, trivial⟩
  · unfold tBArgs
    simp only [SV.denL, den_agg, den_int, E.i, e20, e21, t0, t1]
    rfl
theorem topLine_long (g d : GD) (hk : g.ks = [true]) (hk' : d.ks = [true]) (lo hi : Int) (b0 : B64 lo) (b1 : B64 hi) (w : World) (o : g.ok w) (o' : d.ok w) (hn : 20 < g.n) :
    Calls Try.prog 27 #[.agg #[.slice g.A g.n g.c, .slice d.A d.n d.c], .int .i64 lo, .int .i64 hi] w fun e w' => e = .returned (.bool true) ∧ Below w.heap.size w w' := by
  obtain ⟨ρ0, h0⟩ := Jm.start ovFn ovFb (ltwo g d) (fun n => match n with | 4 => (g.n : Int) | 6 => (d.n : Int) | 20 => lo | 21 => hi | _ => 0) (fun _ => false)
  have on := o.n
  have on' := o'.n
  exact law_true tA_ran tA_defs tA_no (Jm ovFn ovFb (ltwo g d) (fun n => match n with | 4 => (g.n : Int) | 6 => (d.n : Int) | 20 => lo | 21 => hi | _ => 0) (fun _ => false)) (fun ρ h => ⟨h.std.et, tA_sum ρ⟩) (fun ρ ρ' h hs => h.same hs) (fun ρ h hv => Eq.mpr (tA_w ρ) trivial) (fun ρ h hv => tA_e ρ) (fun ρ h => tAArgs_ok g d hk hk' lo hi b0 b1 w o o' (by omega) (by omega) (Int.natCast_nonneg _) (by omega) h) h0
theorem topLine_none (g d : GD) (hk : g.ks = [true]) (hk' : d.ks = [true]) (lo hi : Int) (b0 : B64 lo) (b1 : B64 hi) (w : World) (o : g.ok w) (o' : d.ok w) (hn : g.n ≤ 20) (hp : pline g.f g.n d.f d.n ≠ 0) :
    Calls Try.prog 27 #[.agg #[.slice g.A g.n g.c, .slice d.A d.n d.c], .int .i64 lo, .int .i64 hi] w fun e w' => e = .returned (.bool true) ∧ Below w.heap.size w w' := by
  obtain ⟨ρ0, h0⟩ := Jm.start ovFn ovFb (ltwo g d) (fun n => match n with | 4 => (g.n : Int) | 6 => (d.n : Int) | 20 => lo | 21 => hi | _ => 0) (fun _ => false)
  have hG := ltwo_ok o o'
  have hks := ltwo_ks hk hk'
  have on := o.n
  have on' := o'.n
  have hb := pline_bd g.f g.n d.f d.n
  exact law_true tB_ran tB_defs tB_no (Jm ovFn ovFb (ltwo g d) (fun n => match n with | 4 => (g.n : Int) | 6 => (d.n : Int) | 20 => lo | 21 => hi | _ => 0) (fun _ => false)) (fun ρ h => ⟨h.std.et, tB_sum h.std hG hks⟩) (fun ρ ρ' h hs => h.same hs) (fun ρ h hv => Eq.mpr (tB_w ρ) ⟨fun _ => decide_eq_true (by rw [h.std.f rfl]; show 1 ≤ pline g.f g.n d.f d.n; omega), trivial⟩) (fun ρ h hv => tB_e ρ) (fun ρ h => tBArgs_ok g d hk hk' lo hi b0 b1 w o o' (Int.natCast_nonneg _) (by omega) (Int.natCast_nonneg _) (by omega) h) h0
structure TlB (g d : GD) (lo hi : Int) (ρ : Env) : Prop where
  std : Std ovFn ovFb (ltwo g d) ρ
  l4 : ρ.iv 4 = g.n
  l6 : ρ.iv 6 = d.n
  e20 : ρ.iv 20 = lo
  e21 : ρ.iv 21 = hi
theorem TlB.same {g d : GD} {lo hi : Int} {ρ ρ' : Env} (h : TlB g d lo hi ρ) (hs : Same ρ ρ' [] []) : TlB g d lo hi ρ' := ⟨h.std.same hs, (iv_same hs (n := 4) rfl).trans h.l4, (iv_same hs (n := 6) rfl).trans h.l6, (iv_same hs (n := 20) rfl).trans h.e20, (iv_same hs (n := 21) rfl).trans h.e21⟩
structure TlI (g d : GD) (lo hi : Int) (ρ : Env) : Prop where
  b : TlB g d lo hi ρ
  low : 0 ≤ ρ.iv 13
  high : ρ.iv 13 ≤ g.n
theorem TlI.same {g d : GD} {lo hi : Int} {ρ ρ' : Env} (h : TlI g d lo hi ρ) (hs : Same ρ ρ' [] []) : TlI g d lo hi ρ' ∧ (g.n - ρ'.iv 13).toNat = (g.n - ρ.iv 13).toNat := by
  have e := iv_same hs (n := 13) rfl
  exact ⟨⟨h.b.same hs, by rw [e]; exact h.low, by rw [e]; exact h.high⟩, by rw [e]⟩
set_option maxRecDepth 100000 in
set_option maxHeartbeats 1000000 in
theorem topLine_main (g d : GD) (hk : g.ks = [true]) (hk' : d.ks = [true]) (lo hi : Int) (b0 : B64 lo) (b1 : B64 hi) (hpl : pline g.f g.n d.f d.n = 0) (w : World) (o : g.ok w) (o' : d.ok w) :
    Calls Try.prog 27 #[.agg #[.slice g.A g.n g.c, .slice d.A d.n d.c], .int .i64 lo, .int .i64 hi] w fun e w' => e = .returned (.bool true) ∧ Below w.heap.size w w' := by
  obtain ⟨hnn, n2, n8, wf, rf, wg⟩ := pline_parts hpl
  obtain ⟨ρ0, h⟩ := Jm.start ovFn ovFb (ltwo g d) (fun n => match n with | 4 => (g.n : Int) | 6 => (d.n : Int) | 20 => lo | 21 => hi | _ => 0) (fun _ => false)
  have hG := ltwo_ok o o'
  have hks := ltwo_ks hk hk'
  have h0 : TlB g d lo hi ρ0 := ⟨h.std, h.at_ 4 rfl, h.at_ 6 rfl, h.at_ 20 rfl, h.at_ 21 rfl⟩
  have hm := h.mem (w := w) hG
  obtain ⟨s1, s2⟩ := h.std.osl hG (k := 0) (sh := [.int .i64 (-9223372036854775808) 9223372036854775807]) (by rw [hks]; rfl) (by rw [hks]; decide) (e := .v 4) (lo := 2) (hi := 8) (show ρ0.iv 4 = ((ltwo g d 0).n : Int) from h.at_ 4 rfl) (by decide) (by show (2 : Int) ≤ g.n; omega) (by show (g.n : Int) ≤ 8; omega) (· < 0) ⟨fun _ => 0, fun _ => 0, fun _ => 0⟩
  obtain ⟨s3, s4⟩ := h.std.osl hG (k := 1) (sh := [.int .i64 (-9223372036854775808) 9223372036854775807]) (by rw [hks]; rfl) (by rw [hks]; decide) (e := .v 6) (lo := 2) (hi := 8) (show ρ0.iv 6 = ((ltwo g d 1).n : Int) from h.at_ 6 rfl) (by decide) (by show (2 : Int) ≤ d.n; omega) (by show (d.n : Int) ≤ 8; omega) (· < 0) ⟨fun _ => 0, fun _ => 0, fun _ => 0⟩
  clear h
  have key := loop1_ret (P := Try.prog) (cfg := cfgK tMSum tMKeeps 50 12) Try.func27 rfl (k := 4) (i := 0) (n := 13) (by decide +kernel) (by kernel_rfl) (args := tMArgs) (H := []) (nx := 0) tM_ran0 tM_defs0 tM_no0 tM_ran1 tM_defs1 tM_no1 tM_ran2 tM_defs2 tM_no2 (V := .bool true) (TlB g d lo hi) (TlI g d lo hi) (TlI g d lo hi) (fun ρ => (g.n - ρ.iv 13).toNat)
    (fun ρ h => ⟨h.std.et, tM_sum h.std (ltwo_ok o o') (ltwo_ks hk hk')⟩) (fun ρ h => ⟨h.b.std.et, tM_sum h.b.std (ltwo_ok o o') (ltwo_ks hk hk')⟩) (fun ρ ρ' h hs => h.same hs) (fun ρ ρ' h hs => h.same hs) (fun ρ h => h) (fun ρ ρ' h hs => (h.same hs).1) (by kernel_rfl)
    (fun ρ h => by
      have h1 := h.l4
      have h2 := h.l6
      have e1 := h.e20
      have e2 := h.e21
      unfold B64 at b0 b1
      refine List.forall_mem_cons.2 ⟨?_, List.forall_mem_cons.2 ⟨?_, List.forall_mem_cons.2 ⟨?_, List.forall_mem_cons.2 ⟨?_, fun _ h => nomatch h⟩⟩⟩⟩
      · exact fit_of (z := ρ.iv 4) rfl (by show (2 : Int) ≤ ρ.iv 4; omega) (by show ρ.iv 4 ≤ 8; omega)
      · exact fit_of (z := ρ.iv 6) rfl (by show (2 : Int) ≤ ρ.iv 6; omega) (by show ρ.iv 6 ≤ 8; omega)
      · exact fit_of (z := ρ.iv 20) rfl (by show (-9223372036854775808 : Int) ≤ ρ.iv 20; omega) (by show ρ.iv 20 ≤ 9223372036854775807; omega)
      · exact fit_of (z := ρ.iv 21) rfl (by show (-9223372036854775808 : Int) ≤ ρ.iv 21; omega) (by show ρ.iv 21 ≤ 9223372036854775807; omega))
    (fun ρ h => by
      have h1 := h.b.l4
      have h2 := h.b.l6
      have e1 := h.b.e20
      have e2 := h.b.e21
      have h5 := h.low
      have h6 := h.high
      unfold B64 at b0 b1
      refine List.forall_mem_cons.2 ⟨?_, List.forall_mem_cons.2 ⟨?_, List.forall_mem_cons.2 ⟨?_, List.forall_mem_cons.2 ⟨?_, List.forall_mem_cons.2 ⟨?_, fun _ h => nomatch h⟩⟩⟩⟩⟩
      · exact fit_of (z := ρ.iv 13) rfl (by show (0 : Int) ≤ ρ.iv 13; omega) (by show ρ.iv 13 ≤ 8; omega)
      · exact fit_of (z := ρ.iv 20) rfl (by show (-9223372036854775808 : Int) ≤ ρ.iv 20; omega) (by show ρ.iv 20 ≤ 9223372036854775807; omega)
      · exact fit_of (z := ρ.iv 21) rfl (by show (-9223372036854775808 : Int) ≤ ρ.iv 21; omega) (by show ρ.iv 21 ≤ 9223372036854775807; omega)
      · exact fit_of (z := ρ.iv 4) rfl (by show (2 : Int) ≤ ρ.iv 4; omega) (by show ρ.iv 4 ≤ 8; omega)
      · exact fit_of (z := ρ.iv 6) rfl (by show (2 : Int) ≤ ρ.iv 6; omega) (by show ρ.iv 6 ≤ 8; omega))
    (fun ρ h hv => Eq.mpr (tM_w0 ρ) (by
      have z62 : ρ.fn 62 [0, 1] = 0 := by rw [h.std.f rfl]; exact hpl
      exact ⟨fun _ => decide_eq_true z62, trivial⟩))
    (fun ρ h hv => Eq.mpr (tM_w1 ρ) (by
      have z62 : ρ.fn 62 [0, 1] = 0 := by rw [h.b.std.f rfl]; exact hpl
      have h1 := h.b.l4
      have h2 := h.b.l6
      refine ⟨fun _ => decide_eq_true z62, fun ⟨c, _⟩ => ?_, trivial⟩
      have c := of_decide_eq_true c
      exact decide_eq_true (by omega)))
    (fun ρ h hv => Eq.mpr (tM_w2 ρ) (by
      have z62 : ρ.fn 62 [0, 1] = 0 := by rw [h.b.std.f rfl]; exact hpl
      exact ⟨fun _ => decide_eq_true z62, trivial⟩))
    (by
      refine List.forall_mem_cons.2 ⟨?_, fun _ h => nomatch h⟩
      · intro ρ h hv hp
        refine .inr ⟨rfl, rfl, ?_⟩
        exact ⟨⟨h.std.sub _, h.l4, h.l6, h.e20, h.e21⟩, Int.le_refl _, Int.natCast_nonneg _⟩)
    (by
      refine List.forall_mem_cons.2 ⟨?_, List.forall_mem_cons.2 ⟨?_, List.forall_mem_cons.2 ⟨?_, fun _ h => nomatch h⟩⟩⟩
      · intro ρ h hv hp
        obtain ⟨c0, c1, _⟩ := Eq.mp (tM_1_pc0 ρ) hp
        refine .inr (.inr ⟨rfl, (fun _ h => nomatch h), [.bool (.bc false)], by kernel_rfl, fun b => ?_⟩)
        exfalso
        have c1 := of_decide_eq_true c1
        have h1 := h.b.l4
        have h5 := h.low
        have f1 : ρ.fn 1000 [ρ.iv 13] = g.f (ρ.iv 13).toNat := h.b.std.e (k := 0) (j := 0) rfl _
        have f2 : ρ.fn 1100 [ρ.iv 13] = d.f (ρ.iv 13).toNat := h.b.std.e (k := 1) (j := 0) rfl _
        have f3 : ρ.fn 64 [0, 1, g.f (ρ.iv 13).toNat] = d.f (ρ.iv 13).toNat := by
          rw [h.b.std.f rfl]
          exact plook_point n2 rf (by omega)
        rw [f1, f2, f3] at c0
        simp at c0
      · intro ρ h hv hp
        obtain ⟨c0, c1, _⟩ := Eq.mp (tM_1_pc1 ρ) hp
        refine .inl ⟨rfl, rfl, ?_, ?_⟩
        · have c1 := of_decide_eq_true c1
          have h1 := h.b.l4
          have h5 := h.low
          exact ⟨⟨h.b.std.sub _, h.b.l4, h.b.l6, h.b.e20, h.b.e21⟩, by show 0 ≤ ρ.iv 13 + 1; omega, by show ρ.iv 13 + 1 ≤ g.n; omega⟩
        · have c1 := of_decide_eq_true c1
          have h1 := h.b.l4
          have h5 := h.low
          show (g.n - (ρ.iv 13 + 1)).toNat < (g.n - ρ.iv 13).toNat
          omega
      · intro ρ h hv hp
        obtain ⟨c0, _⟩ := Eq.mp (tM_1_pc2 ρ) hp
        refine .inr (.inl ⟨rfl, rfl, ?_⟩)
        exact ⟨⟨h.b.std.sub _, h.b.l4, h.b.l6, h.b.e20, h.b.e21⟩, h.low, h.high⟩)
    (by
      refine List.forall_mem_cons.2 ⟨?_, fun _ h => nomatch h⟩
      · intro ρ h hv hp
        refine ⟨.inr rfl, (fun _ h => nomatch h), [.bool (.bv 900)], by kernel_rfl, fun b => ?_⟩
        obtain ⟨-, k1, k2, k3, k4, k5, k6, -⟩ := Eq.mp (tM_says2 ρ) hv
        have e20 := h.b.e20
        have e21 := h.b.e21
        have q64 : ∀ x, ρ.fn 64 [0, 1, x] = plook g.f d.f g.n x := fun x => by rw [h.b.std.f rfl]; rfl
        have q73 : ∀ x y, ρ.fn 73 [0, 1, x, y] = pover3 g d x y := fun x y => by rw [h.b.std.f rfl]; rfl
        have q71 : ∀ x y, ρ.fn 71 [0, 1, x, y] = poverL g d x y := fun x y => by rw [h.b.std.f rfl]; rfl
        have q72 : ∀ x y, ρ.fn 72 [0, 1, x, y] = poverH g d x y := fun x y => by rw [h.b.std.f rfl]; rfl
        have q65 : ρ.fb 65 [0, 1] = (decide (pline g.f g.n d.f d.n = 0) && pnofall d.f d.n) := by rw [h.b.std.b rfl]; rfl
        rw [e20, e21, q65, q64, q64] at k1
        rw [e20, e21, q73] at k2
        rw [e20, e21, q71] at k3
        rw [e20, e21, q72] at k4
        rw [e20, e21, q64] at k5 k6
        have hsp : pspan (min (max (min lo hi) (-2147483647)) 2147483647) (min (max (max lo hi) (-2147483647)) 2147483647) = 0 := by unfold pspan; rw [if_neg (by omega)]
        have hz : pover3 g d (min (max (min lo hi) (-2147483647)) 2147483647) (min (max (max lo hi) (-2147483647)) 2147483647) = 0 := (if_pos hpl).trans hsp
        have he := povr_ends (L := fun x => plook g.f d.f g.n x) (f := g.f) (g := d.f) (lo := min (max (min lo hi) (-2147483647)) 2147483647) (hi := min (max (max lo hi) (-2147483647)) 2147483647) g.n
        simp only [plook_of n2 wf] at he
        have hL : poverL g d (min (max (min lo hi) (-2147483647)) 2147483647) (min (max (max lo hi) (-2147483647)) 2147483647) = (povr (fun x => plook g.f d.f g.n x) g.f d.f (min (max (min lo hi) (-2147483647)) 2147483647) (min (max (max lo hi) (-2147483647)) 2147483647) g.n).1 := if_pos hz
        have hH : poverH g d (min (max (min lo hi) (-2147483647)) 2147483647) (min (max (max lo hi) (-2147483647)) 2147483647) = (povr (fun x => plook g.f d.f g.n x) g.f d.f (min (max (min lo hi) (-2147483647)) 2147483647) (min (max (max lo hi) (-2147483647)) 2147483647) g.n).2 := if_pos hz
        have r1 : ρ.bv 1262331193937516586 = false := by
          rw [k1]
          cases hr : pnofall d.f d.n with
          | false => rw [Bool.and_false]; rfl
          | true =>
            have hm := plook_mono (g := d.f) n2 rf (fun k hk => (pnofall_iff.1 hr) k (by omega)) (x := min lo hi) (y := max lo hi) (by omega)
            rw [decide_eq_false (by omega : ¬ plook g.f d.f g.n (max lo hi) < plook g.f d.f g.n (min lo hi)), Bool.and_false]
        have r5 : ρ.bv 1847553098389094795 = true := by
          rw [k5, k3, k4, hL, hH]
          rw [decide_eq_true he.1, decide_eq_true (he.2.2.1)]; rfl
        have r6 : ρ.bv 1414784575601416923 = true := by
          rw [k6, k3, k4, hL, hH]
          rw [decide_eq_true he.2.1, decide_eq_true (he.2.2.2)]; rfl
        have r2 : ρ.iv 1401654731943438972 = 0 := by rw [k2, hz]
        show Value.bool ((!ρ.bv 1262331193937516586) && ((decide (ρ.iv 1401654731943438972 = 0) && ρ.bv 1847553098389094795) && ρ.bv 1414784575601416923)) = _
        rw [r1, r2, r5, r6]
        rfl)
    h0 ⟨fun _ => 0, fun _ => 0, fun _ => 0⟩ w (noHeap _ _ _ _) ⟨⟨s1, s3, trivial⟩, ⟨by show _ ≤ ρ0.iv 20; rw [h0.e20]; exact b0.1, by show ρ0.iv 20 ≤ _; rw [h0.e20]; exact b0.2⟩, ⟨by show _ ≤ ρ0.iv 21; rw [h0.e21]; exact b1.1, by show ρ0.iv 21 ≤ _; rw [h0.e21]; exact b1.2⟩, trivial⟩ hm
  have e : SV.denL ρ0 ⟨fun _ => 0, fun _ => 0, fun _ => 0⟩ tMArgs = [.agg #[.slice g.A g.n g.c, .slice d.A d.n d.c], .int .i64 lo, .int .i64 hi] := by
    unfold tMArgs
    simp only [SV.denL]
    simp only [den_agg, SV.denL, den_int, E.i, h0.e20, h0.e21]
    rw [s2, s4]
    rfl
  rw [e] at key
  exact key
theorem topLine_true (g d : GD) (hk : g.ks = [true]) (hk' : d.ks = [true]) (lo hi : Int) (b0 : B64 lo) (b1 : B64 hi) (w : World) (o : g.ok w) (o' : d.ok w) :
    Calls Try.prog 27 #[.agg #[.slice g.A g.n g.c, .slice d.A d.n d.c], .int .i64 lo, .int .i64 hi] w fun e w' => e = .returned (.bool true) ∧ Below w.heap.size w w' := by
  by_cases hn : 20 < g.n
  · exact topLine_long g d hk hk' lo hi b0 b1 w o o' hn
  by_cases hp : pline g.f g.n d.f d.n = 0
  · exact topLine_main g d hk hk' lo hi b0 b1 hp w o o'
  · exact topLine_none g d hk hk' lo hi b0 b1 w o o' (by omega) hp
end Go.Proofs.Ytdfpenjhpemokaa.Sx
namespace Go.Proofs.Ytdfpenjhpemokaa
open Go.ChangeShapes Go.WideShapes Go.ChangeAt Go.Deep Go.RowKit in
set_option maxRecDepth 100000 in
theorem walkTopLine {H : Type} (W : World) (base : Nat) (enc : TypeId × Value → H) (v0 v1 v2 : Value) {d0 d1 d2 : DataW H} {p0 p1 p2 : List MemPlace}
    (k0 : Value.okWide Try.prog W .any base 81 v0) (k1 : Value.okWide Try.prog W .any base 3 v1) (k2 : Value.okWide Try.prog W .any base 3 v2)
    (h0 : DataW.Trod enc Try.prog W 0 (fun _ => true) true 81 v0 d0 p0) (_ : DataW.Trod enc Try.prog W 0 (fun _ => true) true 3 v1 d1 p1) (_ : DataW.Trod enc Try.prog W 0 (fun _ => true) true 3 v2 d2 p2) :
    Calls Try.prog 27 #[v0, v1, v2] W fun e W' => e = .returned (.bool true) ∧ Below W.heap.size W W' := by
  obtain ⟨g, d, rfl, o, hk, o', hk'⟩ := Sx.pair_open [true] [true] (by decide) (by decide) Try.underlying81 (by kernel_rfl) (by kernel_rfl) Try.underlying78 (by kernel_rfl) (by kernel_rfl) Try.underlying78 (by kernel_rfl) (by kernel_rfl) k0 h0
  obtain ⟨lo, rfl, b0⟩ := okWide_int Try.underlying3 k1
  obtain ⟨hi, rfl, b1⟩ := okWide_int Try.underlying3 k2
  exact Sx.topLine_true g d hk hk' lo hi b0 b1 W o o'
end Go.Proofs.Ytdfpenjhpemokaa
