/-
  Holding: contracts of hold.Check and R.HoldRuleMay.
-/
import Derived.Test.YtdfpenjhpemokaaHoldRun
set_option linter.unusedVariables false
set_option linter.unusedSimpArgs false
namespace Go.Proofs.Ytdfpenjhpemokaa.Sx
open Go.RowKit
theorem ltwo_any {g h : GD} {w : World} (o : g.ok w) (o' : h.ok w) (hk : g.ks = [true]) (hk' : h.ks = [true]) {L : Int} (hn : (g.n : Int) ≤ L) (hn' : (h.n : Int) ≤ L) (m : Nat → Int) (h4 : m 4 = g.n) (h6 : m 6 = h.n) (b : Bd) : ∃ ρ, ρ.iv = m ∧ Std lnF lnB (ltwo g h) ρ ∧ Mem ρ (· < w.heap.size) w ∧ (SV.osl 0 [.int .i64 (-9223372036854775808) 9223372036854775807] ⟨.v 4, 0, L⟩).ok ρ (· < 0) ∧ (SV.osl 0 [.int .i64 (-9223372036854775808) 9223372036854775807] ⟨.v 4, 0, L⟩).den ρ b = .slice g.A g.n g.c ∧ (SV.osl 1 [.int .i64 (-9223372036854775808) 9223372036854775807] ⟨.v 6, 0, L⟩).ok ρ (· < 0) ∧ (SV.osl 1 [.int .i64 (-9223372036854775808) 9223372036854775807] ⟨.v 6, 0, L⟩).den ρ b = .slice h.A h.n h.c := by
  obtain ⟨⟨q1, q2, q3, q4⟩, q5⟩ := gen_osl (et := 23) (iv := m) (bv := fun _ => false) (fn := lnF (ltwo g h)) (fb := lnB (ltwo g h)) (fl := fun _ _ => []) (ltwo_ok o o') (k := 0) (m := 4) (sh := [.int .i64 (-9223372036854775808) 9223372036854775807]) (by show g.ks.map ckOf = _; rw [hk]; rfl) h4 (by show g.ks.length ≤ 100; rw [hk]; decide) (· < 0) b
  obtain ⟨⟨r1, r2, r3, r4⟩, r5⟩ := gen_osl (et := 23) (iv := m) (bv := fun _ => false) (fn := lnF (ltwo g h)) (fb := lnB (ltwo g h)) (fl := fun _ _ => []) (ltwo_ok o o') (k := 1) (m := 6) (sh := [.int .i64 (-9223372036854775808) 9223372036854775807]) (by show h.ks.map ckOf = _; rw [hk']; rfl) h6 (by show h.ks.length ≤ 100; rw [hk']; decide) (· < 0) b
  exact ⟨genEnv 23 m (fun _ => false) (lnF (ltwo g h)) (lnB (ltwo g h)) (fun _ _ => []) (ltwo g h), rfl, Std.gen () _ _ _, gen_mem (ltwo_ok o o'), ⟨⟨q1.1, by show m 4 ≤ L; omega⟩, Int.le_refl (0 : Int), q3, q4⟩, q5, ⟨⟨r1.1, by show m 6 ≤ L; omega⟩, Int.le_refl (0 : Int), r3, r4⟩, r5⟩
theorem pgain_iff {f : Nat → Int} : ∀ {n : Nat}, pgain f n = true ↔ ∀ k, k < n → 0 ≤ f k ∧ f k ≤ 65536 := by
  intro n
  induction n with
  | zero => exact ⟨fun _ k hk => absurd hk (Nat.not_lt_zero k), fun _ => rfl⟩
  | succ n ih =>
    simp only [pgain, Bool.and_eq_true, decide_eq_true_eq, ih]
    refine ⟨fun ⟨h1, h2⟩ k hk => ?_, fun h => ⟨fun k hk => h k (by omega), h n (by omega)⟩⟩
    by_cases hkn : k = n
    · subst hkn; exact h2
    · exact h1 k (by omega)
theorem phrule_bd {lo hi tu bu mo pl : Int} {ga : Bool} (h : 0 ≤ pl ∧ pl ≤ 5) : 0 ≤ phrule lo hi tu bu mo pl ga ∧ phrule lo hi tu bu mo pl ga ≤ 5 := by
  unfold phrule
  split
  · split
    · omega
    · split
      · split <;> omega
      · omega
  · omega
/-- A hold's rule. -/
structure HRul (g d : GD) (lo hi tu bu mo : Int) (ρ : Env) : Prop where
  two : LTwo g d 0 ρ
  e20 : ρ.iv 20 = lo
  e21 : ρ.iv 21 = hi
  e22 : ρ.iv 22 = tu
  e23 : ρ.iv 23 = bu
  e24 : ρ.iv 24 = mo
theorem HRul.same {g d : GD} {lo hi tu bu mo : Int} {ρ ρ' : Env} (h : HRul g d lo hi tu bu mo ρ) (hs : Same ρ ρ' [] []) : HRul g d lo hi tu bu mo ρ' := ⟨h.two.same hs, (iv_same hs (n := 20) rfl).trans h.e20, (iv_same hs (n := 21) rfl).trans h.e21, (iv_same hs (n := 22) rfl).trans h.e22, (iv_same hs (n := 23) rfl).trans h.e23, (iv_same hs (n := 24) rfl).trans h.e24⟩
theorem HRul.sub {g d : GD} {lo hi tu bu mo : Int} {ρ : Env} (h : HRul g d lo hi tu bu mo ρ) (σ : Sub) (h4 : (ρ.sub σ).iv 4 = ρ.iv 4) (h6 : (ρ.sub σ).iv 6 = ρ.iv 6) (h5 : (ρ.sub σ).iv 5 = ρ.iv 5) (h20 : (ρ.sub σ).iv 20 = ρ.iv 20) (h21 : (ρ.sub σ).iv 21 = ρ.iv 21) (h22 : (ρ.sub σ).iv 22 = ρ.iv 22) (h23 : (ρ.sub σ).iv 23 = ρ.iv 23) (h24 : (ρ.sub σ).iv 24 = ρ.iv 24) : HRul g d lo hi tu bu mo (ρ.sub σ) := ⟨⟨h.two.std.sub _, h4.trans h.two.l4, h6.trans h.two.l6, h5.trans h.two.ex, h.two.s4, h.two.s6⟩, h20.trans h.e20, h21.trans h.e21, h22.trans h.e22, h23.trans h.e23, h24.trans h.e24⟩
theorem HRul.f62 {g d : GD} {lo hi tu bu mo : Int} {ρ : Env} (h : HRul g d lo hi tu bu mo ρ) : ρ.fn 62 [0, 1] = pline g.f g.n d.f d.n := by rw [h.two.std.f rfl]; rfl
structure HcI (g d : GD) (lo hi tu bu mo : Int) (ρ : Env) : Prop where
  r : HRul g d lo hi tu bu mo ρ
  fine : phrule lo hi tu bu mo (pline g.f g.n d.f d.n) (pgain d.f d.n) = if pgain d.f d.n = true then 0 else 1
  low : 0 ≤ ρ.iv 13
  high : ρ.iv 13 ≤ d.n
  all : ∀ k, k < (ρ.iv 13).toNat → 0 ≤ d.f k ∧ d.f k ≤ 65536
structure HcI2 (g d : GD) (lo hi tu bu mo : Int) (ρ : Env) : Prop where
  i : HcI g d lo hi tu bu mo ρ
  all : ∀ k, k < d.n → 0 ≤ d.f k ∧ d.f k ≤ 65536
theorem HcI.same {g d : GD} {lo hi tu bu mo : Int} {ρ ρ' : Env} (h : HcI g d lo hi tu bu mo ρ) (hs : Same ρ ρ' [] []) : HcI g d lo hi tu bu mo ρ' ∧ (d.n - ρ'.iv 13).toNat = (d.n - ρ.iv 13).toNat := by
  have e := iv_same hs (n := 13) rfl
  exact ⟨⟨h.r.same hs, h.fine, by rw [e]; exact h.low, by rw [e]; exact h.high, by rw [e]; exact h.all⟩, by rw [e]⟩
structure HrI (g d : GD) (lo hi tu bu mo : Int) (ρ : Env) : Prop where
  r : HRul g d lo hi tu bu mo ρ
  low : 0 ≤ ρ.iv 13
  high : ρ.iv 13 ≤ d.n
  e : ρ.iv 14 = phrule lo hi tu bu mo (pline g.f g.n d.f d.n) (pgain d.f (ρ.iv 13).toNat)
structure HrI2 (g d : GD) (lo hi tu bu mo : Int) (ρ : Env) : Prop where
  i : HrI g d lo hi tu bu mo ρ
  e : ρ.iv 14 = phrule lo hi tu bu mo (pline g.f g.n d.f d.n) (pgain d.f d.n)
theorem HrI.same {g d : GD} {lo hi tu bu mo : Int} {ρ ρ' : Env} (h : HrI g d lo hi tu bu mo ρ) (hs : Same ρ ρ' [] []) : HrI g d lo hi tu bu mo ρ' ∧ (d.n - ρ'.iv 13).toNat = (d.n - ρ.iv 13).toNat := by
  have e := iv_same hs (n := 13) rfl
  have e' := iv_same hs (n := 14) rfl
  exact ⟨⟨h.r.same hs, by rw [e]; exact h.low, by rw [e]; exact h.high, by rw [e, e']; exact h.e⟩, by rw [e]⟩
theorem phrule_step {lo hi tu bu mo pl : Int} {f : Nat → Int} {n : Nat} (hp : 0 ≤ pl) : phrule lo hi tu bu mo pl (pgain f (n + 1)) = if phrule lo hi tu bu mo pl (pgain f n) = 0 then (if 0 ≤ f n ∧ f n ≤ 65536 then 0 else 1) else phrule lo hi tu bu mo pl (pgain f n) := by
  rw [show pgain f (n + 1) = (pgain f n && decide (0 ≤ f n ∧ f n ≤ 65536)) from rfl]
  generalize pgain f n = q
  unfold phrule
  by_cases h0 : (-100000 ≤ lo ∧ lo ≤ 100000) ∧ (-100000 ≤ hi ∧ hi ≤ 100000) ∧ (0 ≤ tu ∧ tu ≤ 1000) ∧ (0 ≤ bu ∧ bu ≤ 65536) ∧ (1 ≤ mo ∧ mo ≤ 4000)
  · simp only [if_pos h0]
    by_cases h1 : hi < lo
    · simp [h1]
    · simp only [if_neg h1]
      by_cases h2 : pl = 0
      · by_cases h : 0 ≤ f n ∧ f n ≤ 65536 <;> cases q <;> simp [h, h2]
      · simp [h2]
  · simp [if_neg h0]
set_option maxRecDepth 100000 in
set_option maxHeartbeats 1000000 in
theorem holdCheck (g d : GD) (hk : g.ks = [true]) (hk' : d.ks = [true]) (hn : g.n ≤ 1000) (hn' : d.n ≤ 1000) (lo hi tu bu mo : Int) (b20 : B64 lo) (b21 : B64 hi) (b22 : B64 tu) (b23 : B64 bu) (b24 : B64 mo) (w : World) (o : g.ok w) (o' : d.ok w) :
    Calls Try.prog 112 #[.agg #[.int .i64 lo, .int .i64 hi, .int .i64 tu, .int .i64 bu, .int .i64 mo, .slice g.A g.n g.c, .slice d.A d.n d.c]] w fun e w' => e = .returned (errV (phrule lo hi tu bu mo (pline g.f g.n d.f d.n) (pgain d.f d.n))) ∧ Below w.heap.size w w' := by
  obtain ⟨ρ0, hiv, hstd, hm, s1, s2, s3, s4⟩ := ltwo_any o o' hk hk' (L := 1000) (by omega) (by omega) (fun n => match n with | 4 => g.n | 6 => d.n | 20 => lo | 21 => hi | 22 => tu | 23 => bu | 24 => mo | _ => 0) rfl rfl ⟨fun _ => 0, fun _ => 0, fun _ => 0⟩
  have h0 : HRul g d lo hi tu bu mo ρ0 := ⟨⟨hstd, congrFun hiv 4, congrFun hiv 6, congrFun hiv 5, hn, hn'⟩, congrFun hiv 20, congrFun hiv 21, congrFun hiv 22, congrFun hiv 23, congrFun hiv 24⟩
  have key := loop1_ret (P := Try.prog) (cfg := cfgK lineSum hcKeeps 50 12) Try.func112 rfl (k := 10) (i := 0) (n := 13) (by decide +kernel) (by kernel_rfl) (args := hcArgs) (H := []) (nx := 0) hc_ran0 hc_defs0 hc_no0 hc_ran1 hc_defs1 hc_no1 hc_ran2 hc_defs2 hc_no2 (V := errV (phrule lo hi tu bu mo (pline g.f g.n d.f d.n) (pgain d.f d.n))) (HRul g d lo hi tu bu mo) (HcI g d lo hi tu bu mo) (HcI2 g d lo hi tu bu mo) (fun ρ => (d.n - ρ.iv 13).toNat)
    (fun ρ h => ⟨h.two.std.et, line_sum h.two.std (ltwo_ok o o') (ltwo_ks hk hk')⟩) (fun ρ h => ⟨h.r.two.std.et, line_sum h.r.two.std (ltwo_ok o o') (ltwo_ks hk hk')⟩) (fun ρ ρ' h hs => h.same hs) (fun ρ ρ' h hs => h.same hs) (fun ρ h => h.i) (fun ρ ρ' h hs => ⟨(h.i.same hs).1, h.all⟩) (by kernel_rfl)
    (fun ρ h => by
      have h1 := h.two.l4
      have h2 := h.two.s4
      have h3 := h.two.l6
      have h4 := h.two.s6
      have k20 := h.e20
      have k21 := h.e21
      have k22 := h.e22
      have k23 := h.e23
      have k24 := h.e24
      unfold B64 at b20 b21 b22 b23 b24
      refine List.forall_mem_cons.2 ⟨?_, List.forall_mem_cons.2 ⟨?_, List.forall_mem_cons.2 ⟨?_, List.forall_mem_cons.2 ⟨?_, List.forall_mem_cons.2 ⟨?_, List.forall_mem_cons.2 ⟨?_, List.forall_mem_cons.2 ⟨?_, fun _ h => nomatch h⟩⟩⟩⟩⟩⟩⟩
      · exact fit_of (z := ρ.iv 20) rfl (by show (-9223372036854775808 : Int) ≤ ρ.iv 20; omega) (by show ρ.iv 20 ≤ 9223372036854775807; omega)
      · exact fit_of (z := ρ.iv 21) rfl (by show (-9223372036854775808 : Int) ≤ ρ.iv 21; omega) (by show ρ.iv 21 ≤ 9223372036854775807; omega)
      · exact fit_of (z := ρ.iv 22) rfl (by show (-9223372036854775808 : Int) ≤ ρ.iv 22; omega) (by show ρ.iv 22 ≤ 9223372036854775807; omega)
      · exact fit_of (z := ρ.iv 23) rfl (by show (-9223372036854775808 : Int) ≤ ρ.iv 23; omega) (by show ρ.iv 23 ≤ 9223372036854775807; omega)
      · exact fit_of (z := ρ.iv 24) rfl (by show (-9223372036854775808 : Int) ≤ ρ.iv 24; omega) (by show ρ.iv 24 ≤ 9223372036854775807; omega)
      · exact fit_of (z := ρ.iv 4) rfl (by show (0 : Int) ≤ ρ.iv 4; omega) (by show ρ.iv 4 ≤ 1000; omega)
      · exact fit_of (z := ρ.iv 6) rfl (by show (0 : Int) ≤ ρ.iv 6; omega) (by show ρ.iv 6 ≤ 1000; omega))
    (fun ρ h => by
      have h1 := h.low
      have h2 := h.high
      have h3 := h.r.two.l4
      have h4 := h.r.two.s4
      have h5 := h.r.two.l6
      have h6 := h.r.two.s6
      refine List.forall_mem_cons.2 ⟨?_, List.forall_mem_cons.2 ⟨?_, List.forall_mem_cons.2 ⟨?_, fun _ h => nomatch h⟩⟩⟩
      · exact fit_of (z := ρ.iv 13) rfl (by show (0 : Int) ≤ ρ.iv 13; omega) (by show ρ.iv 13 ≤ 1000; omega)
      · exact fit_of (z := ρ.iv 6) rfl (by show (0 : Int) ≤ ρ.iv 6; omega) (by show ρ.iv 6 ≤ 1000; omega)
      · exact fit_of (z := ρ.iv 6) rfl (by show (0 : Int) ≤ ρ.iv 6; omega) (by show ρ.iv 6 ≤ 1000; omega))
    (fun ρ h hv => Eq.mpr (hc_w0 ρ) (by
      trivial))
    (fun ρ h hv => Eq.mpr (hc_w1 ρ) (by
      trivial))
    (fun ρ h hv => Eq.mpr (hc_w2 ρ) (by
      trivial))
    (by
      refine List.forall_mem_cons.2 ⟨?_, List.forall_mem_cons.2 ⟨?_, List.forall_mem_cons.2 ⟨?_, List.forall_mem_cons.2 ⟨?_, fun _ h => nomatch h⟩⟩⟩⟩
      · intro ρ h hv hp
        obtain ⟨c0, _⟩ := Eq.mp (hc_0_pc0 ρ) hp
        have p62 := h.f62
        obtain ⟨hq, _⟩ := Eq.mp (hc_says0 ρ) hv
        have k20 := h.e20
        have k21 := h.e21
        have k22 := h.e22
        have k23 := h.e23
        have k24 := h.e24
        refine .inl ⟨rfl, List.forall_mem_cons.2 ⟨fit_const _ _, fun _ h => nomatch h⟩, [.ifc 23 (.int .i64 ⟨(.c 1), 1, 1⟩)], by kernel_rfl, fun b => ?_⟩
        have e : phrule lo hi tu bu mo (pline g.f g.n d.f d.n) (pgain d.f d.n) = 1 := by
          rw [hq] at c0
          simp only [k20, k21, k22, k23, k24, Bool.or_eq_true, Bool.not_eq_true', Bool.and_eq_false_imp, decide_eq_true_eq, decide_eq_false_iff_not] at c0
          unfold phrule
          rw [if_neg (by omega)]
        rw [e]
        rfl
      · intro ρ h hv hp
        obtain ⟨c0, c1, _⟩ := Eq.mp (hc_0_pc1 ρ) hp
        have p62 := h.f62
        obtain ⟨hq, _⟩ := Eq.mp (hc_says0 ρ) hv
        have k20 := h.e20
        have k21 := h.e21
        have k22 := h.e22
        have k23 := h.e23
        have k24 := h.e24
        refine .inl ⟨rfl, List.forall_mem_cons.2 ⟨fit_const _ _, fun _ h => nomatch h⟩, [.ifc 23 (.int .i64 ⟨(.c 3), 3, 3⟩)], by kernel_rfl, fun b => ?_⟩
        have e : phrule lo hi tu bu mo (pline g.f g.n d.f d.n) (pgain d.f d.n) = 3 := by
          rw [hq] at c1
          simp only [k20, k21, k22, k23, k24, Bool.not_eq_true', Bool.or_eq_false_iff, Bool.and_eq_true, Bool.not_eq_false', decide_eq_true_eq, decide_eq_false_iff_not] at c0 c1
          unfold phrule
          rw [if_pos (by omega), if_pos (by omega)]
        rw [e]
        rfl
      · intro ρ h hv hp
        obtain ⟨c0, c1, c2, _⟩ := Eq.mp (hc_0_pc2 ρ) hp
        have p62 := h.f62
        obtain ⟨hq, _⟩ := Eq.mp (hc_says0 ρ) hv
        have k20 := h.e20
        have k21 := h.e21
        have k22 := h.e22
        have k23 := h.e23
        have k24 := h.e24
        refine .inl ⟨rfl, List.forall_mem_cons.2 ⟨?_, fun _ h => nomatch h⟩, [.ifc 23 (.int .i64 ⟨(.v 900), 1, 5⟩)], by kernel_rfl, fun b => ?_⟩
        all_goals
          have e : phrule lo hi tu bu mo (pline g.f g.n d.f d.n) (pgain d.f d.n) = pline g.f g.n d.f d.n ∧ ¬ pline g.f g.n d.f d.n = 0 := by
            rw [hq] at c2
            simp only [k20, k21, k22, k23, k24, p62, Bool.not_eq_true', Bool.or_eq_false_iff, Bool.and_eq_true, Bool.not_eq_false', decide_eq_true_eq, decide_eq_false_iff_not] at c0 c1 c2
            unfold phrule
            rw [if_pos (by omega), if_neg (by omega), if_neg c0]
            exact ⟨rfl, c0⟩
        all_goals have hb := pline_bd g.f g.n d.f d.n
        · exact fit_of (z := pline g.f g.n d.f d.n) p62 (by show (1 : Int) ≤ _; omega) (by show _ ≤ (5 : Int); omega)
        · show Value.iface 23 (.int .i64 (ρ.fn 62 [0, 1])) = _
          rw [p62, e.1, errV, if_neg e.2]
      · intro ρ h hv hp
        obtain ⟨c0, c1, c2, _⟩ := Eq.mp (hc_0_pc3 ρ) hp
        have p62 := h.f62
        obtain ⟨hq, _⟩ := Eq.mp (hc_says0 ρ) hv
        have k20 := h.e20
        have k21 := h.e21
        have k22 := h.e22
        have k23 := h.e23
        have k24 := h.e24
        refine .inr ⟨rfl, rfl, ?_⟩
        have e : phrule lo hi tu bu mo (pline g.f g.n d.f d.n) (pgain d.f d.n) = if pgain d.f d.n = true then 0 else 1 := by
          rw [hq] at c2
          simp only [k20, k21, k22, k23, k24, p62, Bool.not_eq_true', Bool.or_eq_false_iff, Bool.and_eq_true, Bool.not_eq_false', decide_eq_true_eq, decide_eq_false_iff_not] at c0 c1 c2
          unfold phrule
          rw [if_pos (by omega), if_neg (by omega), if_pos c0]
        exact ⟨h.sub _ rfl rfl rfl rfl rfl rfl rfl rfl, e, Int.le_refl _, by show (0 : Int) ≤ d.n; omega, fun k hk => absurd hk (by show ¬ k < 0; omega)⟩)
    (by
      refine List.forall_mem_cons.2 ⟨?_, List.forall_mem_cons.2 ⟨?_, List.forall_mem_cons.2 ⟨?_, fun _ h => nomatch h⟩⟩⟩
      · intro ρ h hv hp
        obtain ⟨c0, c1, _⟩ := Eq.mp (hc_1_pc0 ρ) hp
        refine .inr (.inr ⟨rfl, List.forall_mem_cons.2 ⟨fit_const _ _, fun _ h => nomatch h⟩, [.ifc 23 (.int .i64 ⟨(.c 1), 1, 1⟩)], by kernel_rfl, fun b => ?_⟩)
        have l6 := h.r.two.l6
        have h1 := h.low
        rw [h.r.two.g] at c0
        simp only [Bool.or_eq_true, decide_eq_true_eq] at c0 c1
        have hf : pgain d.f d.n = false := by
          cases hq : pgain d.f d.n with
          | false => rfl
          | true =>
            have := pgain_iff.1 hq (ρ.iv 13).toNat (by omega)
            omega
        rw [h.fine, hf]
        rfl
      · intro ρ h hv hp
        obtain ⟨c0, c1, _⟩ := Eq.mp (hc_1_pc1 ρ) hp
        refine .inl ⟨rfl, rfl, ?_, ?_⟩
        · have l6 := h.r.two.l6
          have h1 := h.low
          rw [h.r.two.g] at c0
          simp only [Bool.not_eq_true', Bool.or_eq_false_iff, decide_eq_true_eq, decide_eq_false_iff_not] at c0 c1
          refine ⟨h.r.sub _ rfl rfl rfl rfl rfl rfl rfl rfl, h.fine, by show 0 ≤ ρ.iv 13 + 1; omega, by show ρ.iv 13 + 1 ≤ d.n; omega, ?_⟩
          show ∀ k, k < (ρ.iv 13 + 1).toNat → _
          intro k hk
          by_cases hk' : k < (ρ.iv 13).toNat
          · exact h.all k hk'
          · have e2 : (ρ.iv 13).toNat = k := by omega
            rw [e2] at c0
            omega
        · have l6 := h.r.two.l6
          simp only [decide_eq_true_eq] at c1
          show (d.n - (ρ.iv 13 + 1)).toNat < (d.n - ρ.iv 13).toNat
          omega
      · intro ρ h hv hp
        obtain ⟨c0, _⟩ := Eq.mp (hc_1_pc2 ρ) hp
        refine .inr (.inl ⟨rfl, rfl, ?_⟩)
        have l6 := h.r.two.l6
        have h1 := h.low
        have h2 := h.high
        simp only [decide_eq_true_eq] at c0
        have e : (ρ.iv 13).toNat = d.n := by omega
        exact ⟨⟨h.r.sub _ rfl rfl rfl rfl rfl rfl rfl rfl, h.fine, h.low, h.high, h.all⟩, by rw [← e]; exact h.all⟩)
    (by
      refine List.forall_mem_cons.2 ⟨?_, fun _ h => nomatch h⟩
      · intro ρ h hv hp
        refine ⟨.inr rfl, (fun _ h => nomatch h), [.nili], by kernel_rfl, fun b => ?_⟩
        rw [h.i.fine, pgain_iff.2 h.all]
        rfl)
    h0 ⟨fun _ => 0, fun _ => 0, fun _ => 0⟩ w (noHeap _ _ _ _) ⟨⟨⟨by show _ ≤ ρ0.iv 20; rw [h0.e20]; exact b20.1, by show ρ0.iv 20 ≤ _; rw [h0.e20]; exact b20.2⟩, ⟨by show _ ≤ ρ0.iv 21; rw [h0.e21]; exact b21.1, by show ρ0.iv 21 ≤ _; rw [h0.e21]; exact b21.2⟩, ⟨by show _ ≤ ρ0.iv 22; rw [h0.e22]; exact b22.1, by show ρ0.iv 22 ≤ _; rw [h0.e22]; exact b22.2⟩, ⟨by show _ ≤ ρ0.iv 23; rw [h0.e23]; exact b23.1, by show ρ0.iv 23 ≤ _; rw [h0.e23]; exact b23.2⟩, ⟨by show _ ≤ ρ0.iv 24; rw [h0.e24]; exact b24.1, by show ρ0.iv 24 ≤ _; rw [h0.e24]; exact b24.2⟩, s1, s3, trivial⟩, trivial⟩ hm
  have e : SV.denL ρ0 ⟨fun _ => 0, fun _ => 0, fun _ => 0⟩ hcArgs = [.agg #[.int .i64 lo, .int .i64 hi, .int .i64 tu, .int .i64 bu, .int .i64 mo, .slice g.A g.n g.c, .slice d.A d.n d.c]] := by
    unfold hcArgs
    simp only [SV.denL]
    rw [den_agg]
    simp only [SV.denL, den_int, E.i, h0.e20, h0.e21, h0.e22, h0.e23, h0.e24]
    rw [s2, s4]
  rw [e] at key
  exact key
set_option maxRecDepth 100000 in
set_option maxHeartbeats 1000000 in
theorem refHoldRule (g d : GD) (hk : g.ks = [true]) (hk' : d.ks = [true]) (hn : g.n ≤ 1000) (hn' : d.n ≤ 1000) (lo hi tu bu mo : Int) (b20 : B64 lo) (b21 : B64 hi) (b22 : B64 tu) (b23 : B64 bu) (b24 : B64 mo) (w : World) (o : g.ok w) (o' : d.ok w) :
    Calls Try.prog 113 #[.agg #[.int .i64 lo, .int .i64 hi, .int .i64 tu, .int .i64 bu, .int .i64 mo, .slice g.A g.n g.c, .slice d.A d.n d.c]] w fun e w' => e = .returned (.int .i64 (phrule lo hi tu bu mo (pline g.f g.n d.f d.n) (pgain d.f d.n))) ∧ Below w.heap.size w w' := by
  obtain ⟨ρ0, hiv, hstd, hm, s1, s2, s3, s4⟩ := ltwo_any o o' hk hk' (L := 1000) (by omega) (by omega) (fun n => match n with | 4 => g.n | 6 => d.n | 20 => lo | 21 => hi | 22 => tu | 23 => bu | 24 => mo | _ => 0) rfl rfl ⟨fun _ => 0, fun _ => 0, fun _ => 0⟩
  have h0 : HRul g d lo hi tu bu mo ρ0 := ⟨⟨hstd, congrFun hiv 4, congrFun hiv 6, congrFun hiv 5, hn, hn'⟩, congrFun hiv 20, congrFun hiv 21, congrFun hiv 22, congrFun hiv 23, congrFun hiv 24⟩
  have key := loop1_ret (P := Try.prog) (cfg := cfgK lineSum hrKeeps 50 12) Try.func113 rfl (k := 4) (i := 0) (n := 7) (by decide +kernel) (by kernel_rfl) (args := hrArgs) (H := []) (nx := 0) hr_ran0 hr_defs0 hr_no0 hr_ran1 hr_defs1 hr_no1 hr_ran2 hr_defs2 hr_no2 (V := .int .i64 (phrule lo hi tu bu mo (pline g.f g.n d.f d.n) (pgain d.f d.n))) (HRul g d lo hi tu bu mo) (HrI g d lo hi tu bu mo) (HrI2 g d lo hi tu bu mo) (fun ρ => (d.n - ρ.iv 13).toNat)
    (fun ρ h => ⟨h.two.std.et, line_sum h.two.std (ltwo_ok o o') (ltwo_ks hk hk')⟩) (fun ρ h => ⟨h.r.two.std.et, line_sum h.r.two.std (ltwo_ok o o') (ltwo_ks hk hk')⟩) (fun ρ ρ' h hs => h.same hs) (fun ρ ρ' h hs => h.same hs) (fun ρ h => h.i) (fun ρ ρ' h hs => ⟨(h.i.same hs).1, by rw [iv_same hs (n := 14) rfl]; exact h.e⟩) (by kernel_rfl)
    (fun ρ h => by
      have h1 := h.two.l4
      have h2 := h.two.s4
      have h3 := h.two.l6
      have h4 := h.two.s6
      have k20 := h.e20
      have k21 := h.e21
      have k22 := h.e22
      have k23 := h.e23
      have k24 := h.e24
      unfold B64 at b20 b21 b22 b23 b24
      refine List.forall_mem_cons.2 ⟨?_, List.forall_mem_cons.2 ⟨?_, List.forall_mem_cons.2 ⟨?_, List.forall_mem_cons.2 ⟨?_, List.forall_mem_cons.2 ⟨?_, List.forall_mem_cons.2 ⟨?_, List.forall_mem_cons.2 ⟨?_, fun _ h => nomatch h⟩⟩⟩⟩⟩⟩⟩
      · exact fit_of (z := ρ.iv 20) rfl (by show (-9223372036854775808 : Int) ≤ ρ.iv 20; omega) (by show ρ.iv 20 ≤ 9223372036854775807; omega)
      · exact fit_of (z := ρ.iv 21) rfl (by show (-9223372036854775808 : Int) ≤ ρ.iv 21; omega) (by show ρ.iv 21 ≤ 9223372036854775807; omega)
      · exact fit_of (z := ρ.iv 22) rfl (by show (-9223372036854775808 : Int) ≤ ρ.iv 22; omega) (by show ρ.iv 22 ≤ 9223372036854775807; omega)
      · exact fit_of (z := ρ.iv 23) rfl (by show (-9223372036854775808 : Int) ≤ ρ.iv 23; omega) (by show ρ.iv 23 ≤ 9223372036854775807; omega)
      · exact fit_of (z := ρ.iv 24) rfl (by show (-9223372036854775808 : Int) ≤ ρ.iv 24; omega) (by show ρ.iv 24 ≤ 9223372036854775807; omega)
      · exact fit_of (z := ρ.iv 4) rfl (by show (0 : Int) ≤ ρ.iv 4; omega) (by show ρ.iv 4 ≤ 1000; omega)
      · exact fit_of (z := ρ.iv 6) rfl (by show (0 : Int) ≤ ρ.iv 6; omega) (by show ρ.iv 6 ≤ 1000; omega))
    (fun ρ h => by
      have h1 := h.low
      have h2 := h.high
      have h3 := h.r.two.l4
      have h4 := h.r.two.s4
      have h5 := h.r.two.l6
      have h6 := h.r.two.s6
      have k20 := h.r.e20
      have k21 := h.r.e21
      have k22 := h.r.e22
      have k23 := h.r.e23
      have k24 := h.r.e24
      unfold B64 at b20 b21 b22 b23 b24
      have hb := phrule_bd (lo := lo) (hi := hi) (tu := tu) (bu := bu) (mo := mo) (ga := pgain d.f (ρ.iv 13).toNat) (pline_bd g.f g.n d.f d.n)
      rw [← h.e] at hb
      refine List.forall_mem_cons.2 ⟨?_, List.forall_mem_cons.2 ⟨?_, List.forall_mem_cons.2 ⟨?_, List.forall_mem_cons.2 ⟨?_, List.forall_mem_cons.2 ⟨?_, List.forall_mem_cons.2 ⟨?_, List.forall_mem_cons.2 ⟨?_, List.forall_mem_cons.2 ⟨?_, List.forall_mem_cons.2 ⟨?_, fun _ h => nomatch h⟩⟩⟩⟩⟩⟩⟩⟩⟩
      · exact fit_of (z := ρ.iv 13) rfl (by show (0 : Int) ≤ ρ.iv 13; omega) (by show ρ.iv 13 ≤ 1000; omega)
      · exact fit_of (z := ρ.iv 14) rfl (by show (0 : Int) ≤ ρ.iv 14; omega) (by show ρ.iv 14 ≤ 5; omega)
      · exact fit_of (z := ρ.iv 20) rfl (by show (-9223372036854775808 : Int) ≤ ρ.iv 20; omega) (by show ρ.iv 20 ≤ 9223372036854775807; omega)
      · exact fit_of (z := ρ.iv 21) rfl (by show (-9223372036854775808 : Int) ≤ ρ.iv 21; omega) (by show ρ.iv 21 ≤ 9223372036854775807; omega)
      · exact fit_of (z := ρ.iv 22) rfl (by show (-9223372036854775808 : Int) ≤ ρ.iv 22; omega) (by show ρ.iv 22 ≤ 9223372036854775807; omega)
      · exact fit_of (z := ρ.iv 23) rfl (by show (-9223372036854775808 : Int) ≤ ρ.iv 23; omega) (by show ρ.iv 23 ≤ 9223372036854775807; omega)
      · exact fit_of (z := ρ.iv 24) rfl (by show (-9223372036854775808 : Int) ≤ ρ.iv 24; omega) (by show ρ.iv 24 ≤ 9223372036854775807; omega)
      · exact fit_of (z := ρ.iv 4) rfl (by show (0 : Int) ≤ ρ.iv 4; omega) (by show ρ.iv 4 ≤ 1000; omega)
      · exact fit_of (z := ρ.iv 6) rfl (by show (0 : Int) ≤ ρ.iv 6; omega) (by show ρ.iv 6 ≤ 1000; omega))
    (fun ρ h hv => Eq.mpr (hr_w0 ρ) (by
      trivial))
    (fun ρ h hv => Eq.mpr (hr_w1 ρ) (by
      trivial))
    (fun ρ h hv => Eq.mpr (hr_w2 ρ) (by
      trivial))
    (by
      refine List.forall_mem_cons.2 ⟨?_, fun _ h => nomatch h⟩
      · intro ρ h hv hp
        refine .inr ⟨rfl, rfl, ?_⟩
        have p62 := h.f62
        obtain ⟨q1, q2, q3, _⟩ := Eq.mp (hr_says0 ρ) hv
        have hb := pline_bd g.f g.n d.f d.n
        rw [q1, p62] at *
        simp only [h.e20, h.e21, h.e22, h.e23, h.e24] at q2
        refine ⟨h.sub _ rfl rfl rfl rfl rfl rfl rfl rfl, Int.le_refl _, by show (0 : Int) ≤ d.n; omega, ?_⟩
        show ρ.iv 605591424181410422 = phrule lo hi tu bu mo (pline g.f g.n d.f d.n) true
        rw [q3, q2, h.e20, h.e21]
        generalize pline g.f g.n d.f d.n = pl at *
        unfold phrule
        grind)
    (by
      refine List.forall_mem_cons.2 ⟨?_, List.forall_mem_cons.2 ⟨?_, fun _ h => nomatch h⟩⟩
      · intro ρ h hv hp
        obtain ⟨c0, _⟩ := Eq.mp (hr_1_pc0 ρ) hp
        refine .inl ⟨rfl, rfl, ?_, ?_⟩
        · have l6 := h.r.two.l6
          have h1 := h.low
          simp only [decide_eq_true_eq] at c0
          obtain ⟨q1, q2, _⟩ := Eq.mp (hr_says1 ρ) hv
          rw [h.r.two.g] at q1
          refine ⟨h.r.sub _ rfl rfl rfl rfl rfl rfl rfl rfl, by show 0 ≤ ρ.iv 13 + 1; omega, by show ρ.iv 13 + 1 ≤ d.n; omega, ?_⟩
          show ρ.iv 1816263425845145449 = phrule lo hi tu bu mo (pline g.f g.n d.f d.n) (pgain d.f (ρ.iv 13 + 1).toNat)
          rw [show (ρ.iv 13 + 1).toNat = (ρ.iv 13).toNat + 1 by omega, phrule_step (pline_bd _ _ _ _).1, ← h.e, q2, q1]
          grind
        · have l6 := h.r.two.l6
          simp only [decide_eq_true_eq] at c0
          show (d.n - (ρ.iv 13 + 1)).toNat < (d.n - ρ.iv 13).toNat
          omega
      · intro ρ h hv hp
        obtain ⟨c0, _⟩ := Eq.mp (hr_1_pc1 ρ) hp
        refine .inr (.inl ⟨rfl, rfl, ?_⟩)
        have l6 := h.r.two.l6
        have h1 := h.low
        have h2 := h.high
        simp only [decide_eq_true_eq] at c0
        have e : (ρ.iv 13).toNat = d.n := by omega
        exact ⟨⟨h.r.sub _ rfl rfl rfl rfl rfl rfl rfl rfl, h.low, h.high, h.e⟩, by have := h.e; rw [e] at this; exact this⟩)
    (by
      refine List.forall_mem_cons.2 ⟨?_, fun _ h => nomatch h⟩
      · intro ρ h hv hp
        refine ⟨.inr rfl, List.forall_mem_cons.2 ⟨?_, fun _ h => nomatch h⟩, [.int .i64 ⟨(.v 900), 0, 5⟩], by kernel_rfl, fun b => ?_⟩
        · have hb := phrule_bd (lo := lo) (hi := hi) (tu := tu) (bu := bu) (mo := mo) (ga := pgain d.f d.n) (pline_bd g.f g.n d.f d.n)
          exact fit_of (z := phrule lo hi tu bu mo (pline g.f g.n d.f d.n) (pgain d.f d.n)) h.e (by show (0 : Int) ≤ _; omega) (by show _ ≤ (5 : Int); omega)
        · show Value.int .i64 (ρ.iv 14) = _
          rw [h.e])
    h0 ⟨fun _ => 0, fun _ => 0, fun _ => 0⟩ w (noHeap _ _ _ _) ⟨⟨⟨by show _ ≤ ρ0.iv 20; rw [h0.e20]; exact b20.1, by show ρ0.iv 20 ≤ _; rw [h0.e20]; exact b20.2⟩, ⟨by show _ ≤ ρ0.iv 21; rw [h0.e21]; exact b21.1, by show ρ0.iv 21 ≤ _; rw [h0.e21]; exact b21.2⟩, ⟨by show _ ≤ ρ0.iv 22; rw [h0.e22]; exact b22.1, by show ρ0.iv 22 ≤ _; rw [h0.e22]; exact b22.2⟩, ⟨by show _ ≤ ρ0.iv 23; rw [h0.e23]; exact b23.1, by show ρ0.iv 23 ≤ _; rw [h0.e23]; exact b23.2⟩, ⟨by show _ ≤ ρ0.iv 24; rw [h0.e24]; exact b24.1, by show ρ0.iv 24 ≤ _; rw [h0.e24]; exact b24.2⟩, s1, s3, trivial⟩, trivial⟩ hm
  have e : SV.denL ρ0 ⟨fun _ => 0, fun _ => 0, fun _ => 0⟩ hrArgs = [.agg #[.int .i64 lo, .int .i64 hi, .int .i64 tu, .int .i64 bu, .int .i64 mo, .slice g.A g.n g.c, .slice d.A d.n d.c]] := by
    unfold hrArgs
    simp only [SV.denL]
    rw [den_agg]
    simp only [SV.denL, den_int, E.i, h0.e20, h0.e21, h0.e22, h0.e23, h0.e24]
    rw [s2, s4]
  rw [e] at key
  exact key
end Go.Proofs.Ytdfpenjhpemokaa.Sx
