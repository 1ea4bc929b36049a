/-
  R.LineMay and R.HoldRuleMay, where the second list is of any length.
-/
import Derived.Test.YtdfpenjhpemokaaLineTRun
set_option linter.unusedVariables false
set_option linter.unusedSimpArgs false
namespace Go.Proofs.Ytdfpenjhpemokaa.Sx
open Go.RowKit
set_option maxRecDepth 100000 in
set_option maxHeartbeats 1000000 in
theorem refLineMayB (g d : GD) (hk : g.ks = [true]) (hk' : d.ks = [true]) (hn : g.n ≤ 1000) (w : World) (o : g.ok w) (o' : d.ok w) :
    Calls Try.prog 78 #[.agg #[.slice g.A g.n g.c, .slice d.A d.n d.c]] w fun e w' => e = .returned (.int .i64 (pline g.f g.n d.f d.n)) ∧ Below w.heap.size w w' := by
  have on' := o'.n
  obtain ⟨ρ0, hiv, hstd, hm, s1, s2, s3, s4⟩ := ltwo_any o o' hk hk' (L := 9223372036854775807) (by omega) (by omega) (fun n => match n with | 4 => g.n | 6 => d.n | _ => 0) rfl rfl ⟨fun _ => 0, fun _ => 0, fun _ => 0⟩
  obtain ⟨s1, s2⟩ := osl_cut (h' := 1000) s1 s2 (by show ρ0.iv 4 ≤ 1000; rw [show ρ0.iv 4 = (g.n : Int) from congrFun hiv 4]; omega)
  have h0 : LBig g d 0 ρ0 := ⟨hstd, congrFun hiv 4, congrFun hiv 6, congrFun hiv 5, o.n, o'.n⟩
  have key := piece_ret (P := Try.prog) (cfg := cfgK lMSum lMKeeps 50 12) Try.func78 rfl (args := lMArgs) (H := []) (nx := 0) lM_ran0 lM_defs0 lM_no0 (V := .int .i64 (pline g.f g.n d.f d.n)) (LBig g d 0)
    (fun ρ h => ⟨h.std.et, lM_sum h.std (ltwo_ok o o') (ltwo_ks hk hk')⟩) (fun ρ ρ' h hs => h.same hs) (by kernel_rfl)
    (fun ρ h => by
      have h1 := h.l4
      have h2 := h.s4
      have h3 := h.l6
      have h4 := h.s6
      refine List.forall_mem_cons.2 ⟨?_, List.forall_mem_cons.2 ⟨?_, fun _ h => nomatch h⟩⟩
      · exact fit_of (z := ρ.iv 4) rfl (by show (0 : Int) ≤ ρ.iv 4; omega) (by show ρ.iv 4 ≤ 1000; omega)
      · exact fit_of (z := ρ.iv 6) rfl (by show (0 : Int) ≤ ρ.iv 6; omega) (by show ρ.iv 6 ≤ 9223372036854775807; omega))
    (fun ρ h hv => Eq.mpr (lM_w0 ρ) (by
      trivial))
    (by
      refine List.forall_mem_cons.2 ⟨?_, fun _ h => nomatch h⟩
      · intro ρ h hv hp
        obtain ⟨h0, _⟩ := Eq.mp (lM_says0 ρ) hv
        have e1 : ρ.fn 61 [0] = prising g.f g.n := by rw [h.std.f rfl]; rfl
        have e2 : ρ.fn 60 [1] = pworth d.f d.n := by rw [h.std.f rfl]; rfl
        have hz : ρ.iv 382609464082087397 = pline g.f g.n d.f d.n := by
          rw [h0, e1, e2, h.l4, h.l6]
          by_cases hc : g.n = d.n
          · rw [pline_eq hc]
            simp only [hc, decide_true, Bool.not_true, Bool.false_eq_true, if_false]
            by_cases hp : prising g.f d.n = 0
            · by_cases hq : pworth d.f d.n = 0 <;> simp [hp, hq]
            · simp [hp]
          · rw [pline_ne hc]
            have : decide ((g.n : Int) = d.n) = false := decide_eq_false (by omega)
            rw [this]
            rfl
        refine ⟨.inr rfl, List.forall_mem_cons.2 ⟨?_, fun _ h => nomatch h⟩, [.int .i64 ⟨(.v 900), 0, 5⟩], by kernel_rfl, fun b => ?_⟩
        · exact fit_of (z := pline g.f g.n d.f d.n) hz (pline_bd _ _ _ _).1 (pline_bd _ _ _ _).2
        · show Value.int .i64 (ρ.iv 382609464082087397) = _
          rw [hz])
    h0 ⟨fun _ => 0, fun _ => 0, fun _ => 0⟩ w (noHeap _ _ _ _) ⟨⟨s1, s3, trivial⟩, trivial⟩ hm
  have e : SV.denL ρ0 ⟨fun _ => 0, fun _ => 0, fun _ => 0⟩ lMArgs = [.agg #[.slice g.A g.n g.c, .slice d.A d.n d.c]] := by
    unfold lMArgs
    simp only [SV.denL]
    rw [den_agg]
    simp only [SV.denL]
    rw [s2, s4]
  rw [e] at key
  exact key
theorem hR_sum {G : Nat → GD} {ρ : Env} (h : Std lnF lnB G ρ) {w0 : World} (hG : ∀ k, (G k).ok w0) (hks : ∀ k, (G k).ks = [true]) : HOK Try.prog ρ hRSum :=
  biB_ok h hG hks rfl (mv := fun z => .int .i64 z) (φ := fun g d => pline g.f g.n d.f d.n) (fun k m => rfl) (fun g d => pline_bd _ _ _ _) (fun r b => rfl) (fun r N hr => hr) fun g d w hk hk' hn hn' o o' => refLineMayB g d hk hk' (by omega) w o o'
/-- A hold's rule. -/
structure HRulB (g d : GD) (lo hi tu bu mo : Int) (ρ : Env) : Prop where
  two : LBig g d 0 ρ
  e20 : ρ.iv 20 = lo
  e21 : ρ.iv 21 = hi
  e22 : ρ.iv 22 = tu
  e23 : ρ.iv 23 = bu
  e24 : ρ.iv 24 = mo
theorem HRulB.same {g d : GD} {lo hi tu bu mo : Int} {ρ ρ' : Env} (h : HRulB g d lo hi tu bu mo ρ) (hs : Same ρ ρ' [] []) : HRulB g d lo hi tu bu mo ρ' := ⟨h.two.same hs, (iv_same hs (n := 20) rfl).trans h.e20, (iv_same hs (n := 21) rfl).trans h.e21, (iv_same hs (n := 22) rfl).trans h.e22, (iv_same hs (n := 23) rfl).trans h.e23, (iv_same hs (n := 24) rfl).trans h.e24⟩
theorem HRulB.sub {g d : GD} {lo hi tu bu mo : Int} {ρ : Env} (h : HRulB g d lo hi tu bu mo ρ) (σ : Sub) (h4 : (ρ.sub σ).iv 4 = ρ.iv 4) (h6 : (ρ.sub σ).iv 6 = ρ.iv 6) (h5 : (ρ.sub σ).iv 5 = ρ.iv 5) (h20 : (ρ.sub σ).iv 20 = ρ.iv 20) (h21 : (ρ.sub σ).iv 21 = ρ.iv 21) (h22 : (ρ.sub σ).iv 22 = ρ.iv 22) (h23 : (ρ.sub σ).iv 23 = ρ.iv 23) (h24 : (ρ.sub σ).iv 24 = ρ.iv 24) : HRulB g d lo hi tu bu mo (ρ.sub σ) := ⟨⟨h.two.std.sub _, h4.trans h.two.l4, h6.trans h.two.l6, h5.trans h.two.ex, h.two.s4, h.two.s6⟩, h20.trans h.e20, h21.trans h.e21, h22.trans h.e22, h23.trans h.e23, h24.trans h.e24⟩
theorem HRulB.f62 {g d : GD} {lo hi tu bu mo : Int} {ρ : Env} (h : HRulB g d lo hi tu bu mo ρ) : ρ.fn 62 [0, 1] = pline g.f g.n d.f d.n := by rw [h.two.std.f rfl]; rfl
structure HrBI (g d : GD) (lo hi tu bu mo : Int) (ρ : Env) : Prop where
  r : HRulB g d lo hi tu bu mo ρ
  low : 0 ≤ ρ.iv 13
  high : ρ.iv 13 ≤ d.n
  e : ρ.iv 14 = phrule lo hi tu bu mo (pline g.f g.n d.f d.n) (pgain d.f (ρ.iv 13).toNat)
structure HrBI2 (g d : GD) (lo hi tu bu mo : Int) (ρ : Env) : Prop where
  i : HrBI g d lo hi tu bu mo ρ
  e : ρ.iv 14 = phrule lo hi tu bu mo (pline g.f g.n d.f d.n) (pgain d.f d.n)
theorem HrBI.same {g d : GD} {lo hi tu bu mo : Int} {ρ ρ' : Env} (h : HrBI g d lo hi tu bu mo ρ) (hs : Same ρ ρ' [] []) : HrBI g d lo hi tu bu mo ρ' ∧ (d.n - ρ'.iv 13).toNat = (d.n - ρ.iv 13).toNat := by
  have e := iv_same hs (n := 13) rfl
  have e' := iv_same hs (n := 14) rfl
  exact ⟨⟨h.r.same hs, by rw [e]; exact h.low, by rw [e]; exact h.high, by rw [e, e']; exact h.e⟩, by rw [e]⟩
set_option maxRecDepth 100000 in
set_option maxHeartbeats 1000000 in
theorem refHoldRuleB (g d : GD) (hk : g.ks = [true]) (hk' : d.ks = [true]) (hn : g.n ≤ 1000) (lo hi tu bu mo : Int) (b20 : B64 lo) (b21 : B64 hi) (b22 : B64 tu) (b23 : B64 bu) (b24 : B64 mo) (w : World) (o : g.ok w) (o' : d.ok w) :
    Calls Try.prog 113 #[.agg #[.int .i64 lo, .int .i64 hi, .int .i64 tu, .int .i64 bu, .int .i64 mo, .slice g.A g.n g.c, .slice d.A d.n d.c]] w fun e w' => e = .returned (.int .i64 (phrule lo hi tu bu mo (pline g.f g.n d.f d.n) (pgain d.f d.n))) ∧ Below w.heap.size w w' := by
  have on' := o'.n
  obtain ⟨ρ0, hiv, hstd, hm, s1, s2, s3, s4⟩ := ltwo_any o o' hk hk' (L := 9223372036854775807) (by omega) (by omega) (fun n => match n with | 4 => g.n | 6 => d.n | 20 => lo | 21 => hi | 22 => tu | 23 => bu | 24 => mo | _ => 0) rfl rfl ⟨fun _ => 0, fun _ => 0, fun _ => 0⟩
  obtain ⟨s1, s2⟩ := osl_cut (h' := 1000) s1 s2 (by show ρ0.iv 4 ≤ 1000; rw [show ρ0.iv 4 = (g.n : Int) from congrFun hiv 4]; omega)
  have h0 : HRulB g d lo hi tu bu mo ρ0 := ⟨⟨hstd, congrFun hiv 4, congrFun hiv 6, congrFun hiv 5, o.n, o'.n⟩, congrFun hiv 20, congrFun hiv 21, congrFun hiv 22, congrFun hiv 23, congrFun hiv 24⟩
  have key := loop1_ret (P := Try.prog) (cfg := cfgK hRSum hRKeeps 50 12) Try.func113 rfl (k := 4) (i := 0) (n := 7) (by decide +kernel) (by kernel_rfl) (args := hRArgs) (H := []) (nx := 0) hR_ran0 hR_defs0 hR_no0 hR_ran1 hR_defs1 hR_no1 hR_ran2 hR_defs2 hR_no2 (V := .int .i64 (phrule lo hi tu bu mo (pline g.f g.n d.f d.n) (pgain d.f d.n))) (HRulB g d lo hi tu bu mo) (HrBI g d lo hi tu bu mo) (HrBI2 g d lo hi tu bu mo) (fun ρ => (d.n - ρ.iv 13).toNat)
    (fun ρ h => ⟨h.two.std.et, hR_sum h.two.std (ltwo_ok o o') (ltwo_ks hk hk')⟩) (fun ρ h => ⟨h.r.two.std.et, hR_sum h.r.two.std (ltwo_ok o o') (ltwo_ks hk hk')⟩) (fun ρ ρ' h hs => h.same hs) (fun ρ ρ' h hs => h.same hs) (fun ρ h => h.i) (fun ρ ρ' h hs => ⟨(h.i.same hs).1, by rw [iv_same hs (n := 14) rfl]; exact h.e⟩) (by kernel_rfl)
    (fun ρ h => by
      have h1 := h.two.l4
      have h2 := h.two.s4
      have h3 := h.two.l6
      have h4 := h.two.s6
      have k20 := h.e20
      have k21 := h.e21
      have k22 := h.e22
      have k23 := h.e23
      have k24 := h.e24
      unfold B64 at b20 b21 b22 b23 b24
      refine List.forall_mem_cons.2 ⟨?_, List.forall_mem_cons.2 ⟨?_, List.forall_mem_cons.2 ⟨?_, List.forall_mem_cons.2 ⟨?_, List.forall_mem_cons.2 ⟨?_, List.forall_mem_cons.2 ⟨?_, List.forall_mem_cons.2 ⟨?_, fun _ h => nomatch h⟩⟩⟩⟩⟩⟩⟩
      · exact fit_of (z := ρ.iv 20) rfl (by show (-9223372036854775808 : Int) ≤ ρ.iv 20; omega) (by show ρ.iv 20 ≤ 9223372036854775807; omega)
      · exact fit_of (z := ρ.iv 21) rfl (by show (-9223372036854775808 : Int) ≤ ρ.iv 21; omega) (by show ρ.iv 21 ≤ 9223372036854775807; omega)
      · exact fit_of (z := ρ.iv 22) rfl (by show (-9223372036854775808 : Int) ≤ ρ.iv 22; omega) (by show ρ.iv 22 ≤ 9223372036854775807; omega)
      · exact fit_of (z := ρ.iv 23) rfl (by show (-9223372036854775808 : Int) ≤ ρ.iv 23; omega) (by show ρ.iv 23 ≤ 9223372036854775807; omega)
      · exact fit_of (z := ρ.iv 24) rfl (by show (-9223372036854775808 : Int) ≤ ρ.iv 24; omega) (by show ρ.iv 24 ≤ 9223372036854775807; omega)
      · exact fit_of (z := ρ.iv 4) rfl (by show (0 : Int) ≤ ρ.iv 4; omega) (by show ρ.iv 4 ≤ 1000; omega)
      · exact fit_of (z := ρ.iv 6) rfl (by show (0 : Int) ≤ ρ.iv 6; omega) (by show ρ.iv 6 ≤ 9223372036854775807; omega))
    (fun ρ h => by
      have h1 := h.low
      have h2 := h.high
      have h3 := h.r.two.l4
      have h4 := h.r.two.s4
      have h5 := h.r.two.l6
      have h6 := h.r.two.s6
      have k20 := h.r.e20
      have k21 := h.r.e21
      have k22 := h.r.e22
      have k23 := h.r.e23
      have k24 := h.r.e24
      unfold B64 at b20 b21 b22 b23 b24
      have hb := phrule_bd (lo := lo) (hi := hi) (tu := tu) (bu := bu) (mo := mo) (ga := pgain d.f (ρ.iv 13).toNat) (pline_bd g.f g.n d.f d.n)
      rw [← h.e] at hb
      refine List.forall_mem_cons.2 ⟨?_, List.forall_mem_cons.2 ⟨?_, List.forall_mem_cons.2 ⟨?_, List.forall_mem_cons.2 ⟨?_, List.forall_mem_cons.2 ⟨?_, List.forall_mem_cons.2 ⟨?_, List.forall_mem_cons.2 ⟨?_, List.forall_mem_cons.2 ⟨?_, List.forall_mem_cons.2 ⟨?_, fun _ h => nomatch h⟩⟩⟩⟩⟩⟩⟩⟩⟩
      · exact fit_of (z := ρ.iv 13) rfl (by show (0 : Int) ≤ ρ.iv 13; omega) (by show ρ.iv 13 ≤ 9223372036854775807; omega)
      · exact fit_of (z := ρ.iv 14) rfl (by show (0 : Int) ≤ ρ.iv 14; omega) (by show ρ.iv 14 ≤ 5; omega)
      · exact fit_of (z := ρ.iv 20) rfl (by show (-9223372036854775808 : Int) ≤ ρ.iv 20; omega) (by show ρ.iv 20 ≤ 9223372036854775807; omega)
      · exact fit_of (z := ρ.iv 21) rfl (by show (-9223372036854775808 : Int) ≤ ρ.iv 21; omega) (by show ρ.iv 21 ≤ 9223372036854775807; omega)
      · exact fit_of (z := ρ.iv 22) rfl (by show (-9223372036854775808 : Int) ≤ ρ.iv 22; omega) (by show ρ.iv 22 ≤ 9223372036854775807; omega)
      · exact fit_of (z := ρ.iv 23) rfl (by show (-9223372036854775808 : Int) ≤ ρ.iv 23; omega) (by show ρ.iv 23 ≤ 9223372036854775807; omega)
      · exact fit_of (z := ρ.iv 24) rfl (by show (-9223372036854775808 : Int) ≤ ρ.iv 24; omega) (by show ρ.iv 24 ≤ 9223372036854775807; omega)
      · exact fit_of (z := ρ.iv 4) rfl (by show (0 : Int) ≤ ρ.iv 4; omega) (by show ρ.iv 4 ≤ 1000; omega)
      · exact fit_of (z := ρ.iv 6) rfl (by show (0 : Int) ≤ ρ.iv 6; omega) (by show ρ.iv 6 ≤ 9223372036854775807; omega))
    (fun ρ h hv => Eq.mpr (hR_w0 ρ) (by
      trivial))
    (fun ρ h hv => Eq.mpr (hR_w1 ρ) (by
      trivial))
    (fun ρ h hv => Eq.mpr (hR_w2 ρ) (by
      trivial))
    (by
      refine List.forall_mem_cons.2 ⟨?_, fun _ h => nomatch h⟩
      · intro ρ h hv hp
        refine .inr ⟨rfl, rfl, ?_⟩
        have p62 := h.f62
        obtain ⟨q1, q2, q3, _⟩ := Eq.mp (hR_says0 ρ) hv
        have hb := pline_bd g.f g.n d.f d.n
        rw [q1, p62] at *
        simp only [h.e20, h.e21, h.e22, h.e23, h.e24] at q2
        refine ⟨h.sub _ rfl rfl rfl rfl rfl rfl rfl rfl, Int.le_refl _, by show (0 : Int) ≤ d.n; omega, ?_⟩
        show ρ.iv 605591424181410422 = phrule lo hi tu bu mo (pline g.f g.n d.f d.n) true
        rw [q3, q2, h.e20, h.e21]
        generalize pline g.f g.n d.f d.n = pl at *
        unfold phrule
        grind)
    (by
      refine List.forall_mem_cons.2 ⟨?_, List.forall_mem_cons.2 ⟨?_, fun _ h => nomatch h⟩⟩
      · intro ρ h hv hp
        obtain ⟨c0, _⟩ := Eq.mp (hR_1_pc0 ρ) hp
        refine .inl ⟨rfl, rfl, ?_, ?_⟩
        · have l6 := h.r.two.l6
          have h1 := h.low
          simp only [decide_eq_true_eq] at c0
          have h2 := h.high
          have hs6 := h.r.two.s6
          have ew : IntKind.wrap .i64 (ρ.iv 13 + 1) = ρ.iv 13 + 1 := w64 _ (by omega) (by omega)
          obtain ⟨q1, q2, _⟩ := Eq.mp (hR_says1 ρ) hv
          rw [h.r.two.g] at q1
          refine ⟨h.r.sub _ rfl rfl rfl rfl rfl rfl rfl rfl, by show 0 ≤ IntKind.wrap .i64 (ρ.iv 13 + 1); omega, by show IntKind.wrap .i64 (ρ.iv 13 + 1) ≤ d.n; omega, ?_⟩
          show ρ.iv 1816263425845145449 = phrule lo hi tu bu mo (pline g.f g.n d.f d.n) (pgain d.f (IntKind.wrap .i64 (ρ.iv 13 + 1)).toNat)
          rw [ew, show (ρ.iv 13 + 1).toNat = (ρ.iv 13).toNat + 1 by omega, phrule_step (pline_bd _ _ _ _).1, ← h.e, q2, q1]
          grind
        · have l6 := h.r.two.l6
          simp only [decide_eq_true_eq] at c0
          have h1 := h.low
          have h2 := h.high
          have hs6 := h.r.two.s6
          have ew : IntKind.wrap .i64 (ρ.iv 13 + 1) = ρ.iv 13 + 1 := w64 _ (by omega) (by omega)
          show (d.n - IntKind.wrap .i64 (ρ.iv 13 + 1)).toNat < (d.n - ρ.iv 13).toNat
          rw [ew]
          omega
      · intro ρ h hv hp
        obtain ⟨c0, _⟩ := Eq.mp (hR_1_pc1 ρ) hp
        refine .inr (.inl ⟨rfl, rfl, ?_⟩)
        have l6 := h.r.two.l6
        have h1 := h.low
        have h2 := h.high
        simp only [decide_eq_true_eq] at c0
        have e : (ρ.iv 13).toNat = d.n := by omega
        exact ⟨⟨h.r.sub _ rfl rfl rfl rfl rfl rfl rfl rfl, h.low, h.high, h.e⟩, by have := h.e; rw [e] at this; exact this⟩)
    (by
      refine List.forall_mem_cons.2 ⟨?_, fun _ h => nomatch h⟩
      · intro ρ h hv hp
        refine ⟨.inr rfl, List.forall_mem_cons.2 ⟨?_, fun _ h => nomatch h⟩, [.int .i64 ⟨(.v 900), 0, 5⟩], by kernel_rfl, fun b => ?_⟩
        · have hb := phrule_bd (lo := lo) (hi := hi) (tu := tu) (bu := bu) (mo := mo) (ga := pgain d.f d.n) (pline_bd g.f g.n d.f d.n)
          exact fit_of (z := phrule lo hi tu bu mo (pline g.f g.n d.f d.n) (pgain d.f d.n)) h.e (by show (0 : Int) ≤ _; omega) (by show _ ≤ (5 : Int); omega)
        · show Value.int .i64 (ρ.iv 14) = _
          rw [h.e])
    h0 ⟨fun _ => 0, fun _ => 0, fun _ => 0⟩ w (noHeap _ _ _ _) ⟨⟨⟨by show _ ≤ ρ0.iv 20; rw [h0.e20]; exact b20.1, by show ρ0.iv 20 ≤ _; rw [h0.e20]; exact b20.2⟩, ⟨by show _ ≤ ρ0.iv 21; rw [h0.e21]; exact b21.1, by show ρ0.iv 21 ≤ _; rw [h0.e21]; exact b21.2⟩, ⟨by show _ ≤ ρ0.iv 22; rw [h0.e22]; exact b22.1, by show ρ0.iv 22 ≤ _; rw [h0.e22]; exact b22.2⟩, ⟨by show _ ≤ ρ0.iv 23; rw [h0.e23]; exact b23.1, by show ρ0.iv 23 ≤ _; rw [h0.e23]; exact b23.2⟩, ⟨by show _ ≤ ρ0.iv 24; rw [h0.e24]; exact b24.1, by show ρ0.iv 24 ≤ _; rw [h0.e24]; exact b24.2⟩, s1, s3, trivial⟩, trivial⟩ hm
  have e : SV.denL ρ0 ⟨fun _ => 0, fun _ => 0, fun _ => 0⟩ hRArgs = [.agg #[.int .i64 lo, .int .i64 hi, .int .i64 tu, .int .i64 bu, .int .i64 mo, .slice g.A g.n g.c, .slice d.A d.n d.c]] := by
    unfold hRArgs
    simp only [SV.denL]
    rw [den_agg]
    simp only [SV.denL, den_int, E.i, h0.e20, h0.e21, h0.e22, h0.e23, h0.e24]
    rw [s2, s4]
  rw [e] at key
  exact key
end Go.Proofs.Ytdfpenjhpemokaa.Sx
