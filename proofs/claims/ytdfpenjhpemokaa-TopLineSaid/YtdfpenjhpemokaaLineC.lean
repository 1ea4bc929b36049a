/-
  Lines: the program's and the reference's answers.
-/
import Derived.Test.YtdfpenjhpemokaaLineI
import Derived.Test.YtdfpenjhpemokaaLine2Run
set_option linter.unusedVariables false
set_option linter.unusedSimpArgs false
namespace Go.Proofs.Ytdfpenjhpemokaa.Sx
open Go.RowKit
/-- A line, and a number beside it. -/
structure LTwo (g h : GD) (x : Int) (ρ : Env) : Prop where
  std : Std lnF lnB (ltwo g h) ρ
  l4 : ρ.iv 4 = g.n
  l6 : ρ.iv 6 = h.n
  ex : ρ.iv 5 = x
  s4 : g.n ≤ 1000
  s6 : h.n ≤ 1000
theorem LTwo.same {g h : GD} {x : Int} {ρ ρ' : Env} (a : LTwo g h x ρ) (hs : Same ρ ρ' [] []) : LTwo g h x ρ' := ⟨a.std.same hs, (iv_same hs (n := 4) rfl).trans a.l4, (iv_same hs (n := 6) rfl).trans a.l6, (iv_same hs (n := 5) rfl).trans a.ex, a.s4, a.s6⟩
theorem LTwo.f {g h : GD} {x : Int} {ρ : Env} (a : LTwo g h x ρ) (i : Int) : ρ.fn 1000 [i] = g.f i.toNat := a.std.e (k := 0) (j := 0) rfl i
theorem LTwo.g {g h : GD} {x : Int} {ρ : Env} (a : LTwo g h x ρ) (i : Int) : ρ.fn 1100 [i] = h.f i.toNat := a.std.e (k := 1) (j := 0) rfl i
theorem ltwo_start {g h : GD} {w : World} (o : g.ok w) (o' : h.ok w) (hk : g.ks = [true]) (hk' : h.ks = [true]) (hn : g.n ≤ 1000) (hn' : h.n ≤ 1000) (x : Int) (b : Bd) : ∃ ρ, LTwo g h x ρ ∧ Mem ρ (· < w.heap.size) w ∧ (SV.agg [.osl 0 [.int .i64 (-9223372036854775808) 9223372036854775807] ⟨.v 4, 0, 1000⟩, .osl 1 [.int .i64 (-9223372036854775808) 9223372036854775807] ⟨.v 6, 0, 1000⟩]).ok ρ (· < 0) ∧ (SV.agg [.osl 0 [.int .i64 (-9223372036854775808) 9223372036854775807] ⟨.v 4, 0, 1000⟩, .osl 1 [.int .i64 (-9223372036854775808) 9223372036854775807] ⟨.v 6, 0, 1000⟩]).den ρ b = .agg #[.slice g.A g.n g.c, .slice h.A h.n h.c] := by
  obtain ⟨⟨q1, q2, q3, q4⟩, q5⟩ := gen_osl (et := 23) (iv := fun n => match n with | 4 => g.n | 5 => x | 6 => h.n | _ => 0) (bv := fun _ => false) (fn := lnF (ltwo g h)) (fb := lnB (ltwo g h)) (fl := fun _ _ => []) (ltwo_ok o o') (k := 0) (m := 4) (sh := [.int .i64 (-9223372036854775808) 9223372036854775807]) (by show g.ks.map ckOf = _; rw [hk]; rfl) rfl (by show g.ks.length ≤ 100; rw [hk]; decide) (· < 0) b
  obtain ⟨⟨r1, r2, r3, r4⟩, r5⟩ := gen_osl (et := 23) (iv := fun n => match n with | 4 => g.n | 5 => x | 6 => h.n | _ => 0) (bv := fun _ => false) (fn := lnF (ltwo g h)) (fb := lnB (ltwo g h)) (fl := fun _ _ => []) (ltwo_ok o o') (k := 1) (m := 6) (sh := [.int .i64 (-9223372036854775808) 9223372036854775807]) (by show h.ks.map ckOf = _; rw [hk']; rfl) rfl (by show h.ks.length ≤ 100; rw [hk']; decide) (· < 0) b
  refine ⟨genEnv 23 (fun n => match n with | 4 => g.n | 5 => x | 6 => h.n | _ => 0) (fun _ => false) (lnF (ltwo g h)) (lnB (ltwo g h)) (fun _ _ => []) (ltwo g h), ⟨Std.gen () _ _ _, rfl, rfl, rfl, hn, hn'⟩, gen_mem (ltwo_ok o o'), ⟨⟨⟨q1.1, by show (g.n : Int) ≤ 1000; omega⟩, by decide, q3, q4⟩, ⟨⟨r1.1, by show (h.n : Int) ≤ 1000; omega⟩, by decide, r3, r4⟩, trivial⟩, ?_⟩
  rw [den_agg]
  simp only [SV.denL]
  have q5' : (SV.osl 0 [.int .i64 (-9223372036854775808) 9223372036854775807] ⟨.v 4, 0, 1000⟩).den (genEnv 23 (fun n => match n with | 4 => g.n | 5 => x | 6 => h.n | _ => 0) (fun _ => false) (lnF (ltwo g h)) (lnB (ltwo g h)) (fun _ _ => []) (ltwo g h)) b = .slice g.A g.n g.c := q5
  have r5' : (SV.osl 1 [.int .i64 (-9223372036854775808) 9223372036854775807] ⟨.v 6, 0, 1000⟩).den (genEnv 23 (fun n => match n with | 4 => g.n | 5 => x | 6 => h.n | _ => 0) (fun _ => false) (lnF (ltwo g h)) (lnB (ltwo g h)) (fun _ _ => []) (ltwo g h)) b = .slice h.A h.n h.c := r5
  rw [q5', r5']
theorem pline_ne {f : Nat → Int} {n : Nat} {g : Nat → Int} {m : Nat} (h : ¬ n = m) : pline f n g m = 3 := by unfold pline; rw [if_pos h]
theorem pline_eq {f : Nat → Int} {n : Nat} {g : Nat → Int} {m : Nat} (h : n = m) : pline f n g m = if prising f n = 0 then pworth g m else prising f n := by unfold pline por; rw [if_neg (by omega)]
theorem pline_bd (f : Nat → Int) (n : Nat) (g : Nat → Int) (m : Nat) : 0 ≤ pline f n g m ∧ pline f n g m ≤ 5 := by
  by_cases h : n = m
  · rw [pline_eq h]
    have h1 := prising_bd f n
    have h2 := pworth_bd g m
    split <;> omega
  · rw [pline_ne h]; omega
theorem pup2_bd {m d B : Int} (hd : 0 < d) (h1 : -(B * d) ≤ m) (h2 : m ≤ B * d) : -B ≤ pup2 m d ∧ pup2 m d ≤ B := by
  unfold pup2
  constructor
  · refine Int.le_ediv_of_mul_le (by omega) ?_
    have e : -B * (2 * d) = -(2 * (B * d)) := by rw [Int.neg_mul, Int.mul_left_comm]
    rw [e]; omega
  · have : (2 * m + d) / (2 * d) < B + 1 := by
      refine Int.ediv_lt_of_lt_mul (by omega) ?_
      have e : (B + 1) * (2 * d) = 2 * (B * d) + 2 * d := by rw [Int.add_mul, Int.one_mul, Int.mul_left_comm]
      rw [e]; omega
    omega
theorem w64 (n : Int) (h1 : -9223372036854775808 ≤ n) (h2 : n ≤ 9223372036854775807) : IntKind.wrap .i64 n = n := IntWalk.i64_in n ⟨h1, h2⟩
theorem mulAB {a b A B : Int} (h1 : -A ≤ a) (h2 : a ≤ A) (h3 : -B ≤ b) (h4 : b ≤ B) : -(A * B) ≤ a * b ∧ a * b ≤ A * B := by
  have hA : 0 ≤ A := by omega
  have hB : 0 ≤ B := by omega
  have k1 : a.natAbs ≤ A.natAbs := by omega
  have k2 : b.natAbs ≤ B.natAbs := by omega
  have k3 := Nat.mul_le_mul k1 k2
  rw [← Int.natAbs_mul, ← Int.natAbs_mul] at k3
  have : 0 ≤ A * B := Int.mul_nonneg hA hB
  omega
/-- The piece of a number between the ends. -/
theorem piece_in {f : Nat → Int} {n : Nat} (hn : 2 ≤ n) (hr : RiseAll f n) {x : Int} (h1 : f 0 ≤ x) (h2 : x ≤ f (n - 1)) {i : Nat} (hi : IsPiece f n x i) : i + 2 ≤ n ∧ f i ≤ x ∧ x ≤ f (i + 1) := by
  obtain ⟨a1, a2, a3⟩ := hi
  refine ⟨a1, ?_, ?_⟩
  · cases i with
    | zero => exact h1
    | succ i => exact a2 i (Nat.lt_succ_self i)
  · by_cases h : i + 2 < n
    · have := a3 h; omega
    · have e : n - 1 = i + 1 := by omega
      rw [e] at h2; exact h2
set_option maxRecDepth 100000 in
set_option maxHeartbeats 1000000 in
theorem tableCheck (g d : GD) (hk : g.ks = [true]) (hk' : d.ks = [true]) (hn : g.n ≤ 1000) (hn' : d.n ≤ 1000) (w : World) (o : g.ok w) (o' : d.ok w) :
    Calls Try.prog 81 #[.agg #[.slice g.A g.n g.c, .slice d.A d.n d.c]] w fun e w' => e = .returned (errV (pline g.f g.n d.f d.n)) ∧ Below w.heap.size w w' := by
  obtain ⟨ρ0, h0, hm, s1, s2⟩ := ltwo_start o o' hk hk' hn hn' 0 ⟨fun _ => 0, fun _ => 0, fun _ => 0⟩
  have key := piece_ret (P := Try.prog) (cfg := cfgK tcSum tcKeeps 50 12) Try.func81 rfl (args := tcArgs) (H := []) (nx := 0) tc_ran0 tc_defs0 tc_no0 (V := errV (pline g.f g.n d.f d.n)) (LTwo g d 0)
    (fun ρ h => ⟨h.std.et, tc_sum h.std (ltwo_ok o o') (ltwo_ks hk hk')⟩) (fun ρ ρ' h hs => h.same hs) (by kernel_rfl)
    (fun ρ h => by
      have h1 := h.l4
      have h2 := h.s4
      have h3 := h.l6
      have h4 := h.s6
      refine List.forall_mem_cons.2 ⟨?_, List.forall_mem_cons.2 ⟨?_, fun _ h => nomatch h⟩⟩
      · exact fit_of (z := ρ.iv 4) rfl (by show (0 : Int) ≤ ρ.iv 4; omega) (by show ρ.iv 4 ≤ 1000; omega)
      · exact fit_of (z := ρ.iv 6) rfl (by show (0 : Int) ≤ ρ.iv 6; omega) (by show ρ.iv 6 ≤ 1000; omega))
    (fun ρ h hv => Eq.mpr (tc_w0 ρ) (by
      trivial))
    (by
      refine List.forall_mem_cons.2 ⟨?_, fun _ h => nomatch h⟩
      · intro ρ h hv hp
        obtain ⟨h0, _⟩ := Eq.mp (tc_says0 ρ) hv
        have e1 : ρ.fn 61 [0] = prising g.f g.n := by rw [h.std.f rfl]; rfl
        have e2 : ρ.fn 60 [1] = pworth d.f d.n := by rw [h.std.f rfl]; rfl
        have hz : (if (!(decide (ρ.iv 4 = ρ.iv 6))) = true then 3 else ρ.iv 1768319584019362276) = pline g.f g.n d.f d.n := by
          rw [h0, e1, e2, h.l4, h.l6]
          by_cases hc : g.n = d.n
          · rw [pline_eq hc]
            simp only [hc, decide_true, Bool.not_true, Bool.false_eq_true, if_false]
            by_cases hp : prising g.f d.n = 0 <;> simp [hp]
          · rw [pline_ne hc]
            have : decide ((g.n : Int) = d.n) = false := decide_eq_false (by omega)
            rw [this]
            rfl
        refine ⟨.inr rfl, List.forall_mem_cons.2 ⟨?_, fun _ h => nomatch h⟩, [.err ⟨(.v 900), 0, 5⟩], by kernel_rfl, fun b => ?_⟩
        · exact fit_of (z := pline g.f g.n d.f d.n) hz (pline_bd _ _ _ _).1 (pline_bd _ _ _ _).2
        · show (if (ρ.sub _).iv 900 = 0 then Value.nilIface else .iface (ρ.sub _).et (.int .i64 ((ρ.sub _).iv 900))) = errV _
          rw [← hz]
          show (if (if (!(decide (ρ.iv 4 = ρ.iv 6))) = true then 3 else ρ.iv 1768319584019362276) = 0 then Value.nilIface else .iface ρ.et (.int .i64 (if (!(decide (ρ.iv 4 = ρ.iv 6))) = true then 3 else ρ.iv 1768319584019362276))) = _
          rw [h.std.et]
          rfl)
    h0 ⟨fun _ => 0, fun _ => 0, fun _ => 0⟩ w (noHeap _ _ _ _) ⟨s1, trivial⟩ hm
  have e : SV.denL ρ0 ⟨fun _ => 0, fun _ => 0, fun _ => 0⟩ tcArgs = [.agg #[.slice g.A g.n g.c, .slice d.A d.n d.c]] := by
    unfold tcArgs
    simp only [SV.denL]
    rw [s2]
  rw [e] at key
  exact key
set_option maxRecDepth 100000 in
set_option maxHeartbeats 1000000 in
theorem refLineMay (g d : GD) (hk : g.ks = [true]) (hk' : d.ks = [true]) (hn : g.n ≤ 1000) (hn' : d.n ≤ 1000) (w : World) (o : g.ok w) (o' : d.ok w) :
    Calls Try.prog 78 #[.agg #[.slice g.A g.n g.c, .slice d.A d.n d.c]] w fun e w' => e = .returned (.int .i64 (pline g.f g.n d.f d.n)) ∧ Below w.heap.size w w' := by
  obtain ⟨ρ0, h0, hm, s1, s2⟩ := ltwo_start o o' hk hk' hn hn' 0 ⟨fun _ => 0, fun _ => 0, fun _ => 0⟩
  have key := piece_ret (P := Try.prog) (cfg := cfgK lmSum lmKeeps 50 12) Try.func78 rfl (args := lmArgs) (H := []) (nx := 0) lm_ran0 lm_defs0 lm_no0 (V := .int .i64 (pline g.f g.n d.f d.n)) (LTwo g d 0)
    (fun ρ h => ⟨h.std.et, lm_sum h.std (ltwo_ok o o') (ltwo_ks hk hk')⟩) (fun ρ ρ' h hs => h.same hs) (by kernel_rfl)
    (fun ρ h => by
      have h1 := h.l4
      have h2 := h.s4
      have h3 := h.l6
      have h4 := h.s6
      refine List.forall_mem_cons.2 ⟨?_, List.forall_mem_cons.2 ⟨?_, fun _ h => nomatch h⟩⟩
      · exact fit_of (z := ρ.iv 4) rfl (by show (0 : Int) ≤ ρ.iv 4; omega) (by show ρ.iv 4 ≤ 1000; omega)
      · exact fit_of (z := ρ.iv 6) rfl (by show (0 : Int) ≤ ρ.iv 6; omega) (by show ρ.iv 6 ≤ 1000; omega))
    (fun ρ h hv => Eq.mpr (lm_w0 ρ) (by
      trivial))
    (by
      refine List.forall_mem_cons.2 ⟨?_, fun _ h => nomatch h⟩
      · intro ρ h hv hp
        obtain ⟨h0, _⟩ := Eq.mp (lm_says0 ρ) hv
        have e1 : ρ.fn 61 [0] = prising g.f g.n := by rw [h.std.f rfl]; rfl
        have e2 : ρ.fn 60 [1] = pworth d.f d.n := by rw [h.std.f rfl]; rfl
        have hz : ρ.iv 382609464082087397 = pline g.f g.n d.f d.n := by
          rw [h0, e1, e2, h.l4, h.l6]
          by_cases hc : g.n = d.n
          · rw [pline_eq hc]
            simp only [hc, decide_true, Bool.not_true, Bool.false_eq_true, if_false]
            by_cases hp : prising g.f d.n = 0
            · by_cases hq : pworth d.f d.n = 0 <;> simp [hp, hq]
            · simp [hp]
          · rw [pline_ne hc]
            have : decide ((g.n : Int) = d.n) = false := decide_eq_false (by omega)
            rw [this]
            rfl
        refine ⟨.inr rfl, List.forall_mem_cons.2 ⟨?_, fun _ h => nomatch h⟩, [.int .i64 ⟨(.v 900), 0, 5⟩], by kernel_rfl, fun b => ?_⟩
        · exact fit_of (z := pline g.f g.n d.f d.n) hz (pline_bd _ _ _ _).1 (pline_bd _ _ _ _).2
        · show Value.int .i64 (ρ.iv 382609464082087397) = _
          rw [hz])
    h0 ⟨fun _ => 0, fun _ => 0, fun _ => 0⟩ w (noHeap _ _ _ _) ⟨s1, trivial⟩ hm
  have e : SV.denL ρ0 ⟨fun _ => 0, fun _ => 0, fun _ => 0⟩ lmArgs = [.agg #[.slice g.A g.n g.c, .slice d.A d.n d.c]] := by
    unfold lmArgs
    simp only [SV.denL]
    rw [s2]
  rw [e] at key
  exact key
/-- What a look at a line comes to. -/
theorem look_facts {g d : GD} {x : Int} {ρ : Env} (h : LTwo g d x ρ) (hp : pline g.f g.n d.f d.n = 0)
    (h3 : ρ.iv 406760521677086309 = (if (decide ((ρ.fn 1000 (((ρ.iv 4) - (1 : Int)) :: [])) < (ρ.iv 5))) = true then (ρ.fn 1000 (((ρ.iv 4) - (1 : Int)) :: [])) else (ρ.iv 5)))
    (h4 : ρ.iv 1925275249256039237 = (if ((decide ((ρ.iv 5) < (ρ.fn 1000 ((0 : Int) :: [])))) || (decide ((ρ.fn 1000 (((ρ.iv 4) - (1 : Int)) :: [])) < (ρ.fn 1000 ((0 : Int) :: []))))) = true then (ρ.fn 1000 ((0 : Int) :: [])) else (ρ.iv 406760521677086309)))
    (h7 : ρ.iv 595631312192478834 = (IntKind.wrap .i64 ((ρ.fn 1000 (((ρ.fn 63 ((0 : Int) :: ((ρ.iv 1925275249256039237) :: []))) + (1 : Int)) :: [])) - (ρ.fn 1000 ((ρ.fn 63 ((0 : Int) :: ((ρ.iv 1925275249256039237) :: []))) :: [])))))
    (h9 : ρ.iv 735445962742978841 = (IntKind.wrap .i64 ((ρ.iv 1925275249256039237) - (ρ.fn 1000 ((ρ.fn 63 ((0 : Int) :: ((ρ.iv 1925275249256039237) :: []))) :: [])))))
    (h11 : ρ.iv 1102493519344395515 = (IntKind.wrap .i64 ((ρ.fn 1100 (((ρ.fn 63 ((0 : Int) :: ((ρ.iv 1925275249256039237) :: []))) + (1 : Int)) :: [])) - (ρ.fn 1100 ((ρ.fn 63 ((0 : Int) :: ((ρ.iv 1925275249256039237) :: []))) :: [])))))
    (h16 : ρ.iv 915445799494490897 = (IntKind.wrap .i64 ((ρ.fn 1100 ((ρ.fn 63 ((0 : Int) :: ((ρ.iv 1925275249256039237) :: []))) :: [])) + (ρ.fn 50 ((IntKind.wrap .i64 ((ρ.iv 735445962742978841) * (ρ.iv 1102493519344395515))) :: ((ρ.iv 595631312192478834) :: [])))))) :
    (0 < ρ.iv 4 ∧ ρ.fn 63 [0, ρ.iv 1925275249256039237] + 1 < ρ.iv 4 ∧ ρ.iv 6 = ρ.iv 4 ∧ 0 < ρ.iv 595631312192478834 ∧ ρ.iv 595631312192478834 ≤ 4000000000000 ∧ -4400000000000000000 ≤ IntKind.wrap .i64 (ρ.iv 735445962742978841 * ρ.iv 1102493519344395515) ∧ IntKind.wrap .i64 (ρ.iv 735445962742978841 * ρ.iv 1102493519344395515) ≤ 4400000000000000000) ∧ ρ.iv 915445799494490897 = plook g.f d.f g.n x ∧ -4000000 ≤ plook g.f d.f g.n x ∧ plook g.f d.f g.n x ≤ 4000000 := by
  obtain ⟨hnn, n2, n8, wf, rf, wg⟩ := pline_parts hp
  have l4 := h.l4
  have l6 := h.l6
  have e0 : ρ.fn 1000 [0] = g.f 0 := h.f 0
  have eL : ρ.fn 1000 [ρ.iv 4 - 1] = g.f (g.n - 1) := by rw [h.f]; congr 1; omega
  have f0L := rise_le rf 0 (g.n - 1) (by omega) (by omega)
  have y2 : ρ.iv 1925275249256039237 = pclip x (g.f 0) (g.f (g.n - 1)) := by
    rw [h4, h3, e0, eL, h.ex]
    unfold pclip
    simp only [Bool.or_eq_true, decide_eq_true_eq]
  generalize hX : pclip x (g.f 0) (g.f (g.n - 1)) = X at *
  have X1 : g.f 0 ≤ X := by rw [← hX]; unfold pclip; split <;> (try split) <;> omega
  have X2 : X ≤ g.f (g.n - 1) := by rw [← hX]; unfold pclip; split <;> (try split) <;> omega
  have e63 : ρ.fn 63 [0, ρ.iv 1925275249256039237] = (ppc g.f X (g.n - 2) 0 : Int) := by rw [h.std.f rfl, y2]; rfl
  have hi := ppc_is g.f X g.n (g.n - 2) 0 (by omega) (fun j hj => absurd hj (Nat.not_lt_zero j))
  generalize hI : ppc g.f X (g.n - 2) 0 = i at *
  obtain ⟨i1, i2, i3⟩ := piece_in n2 rf X1 X2 hi
  have f1 : ρ.fn 1000 [(i : Int)] = g.f i := by rw [h.f]; congr 1
  have f2 : ρ.fn 1000 [(i : Int) + 1] = g.f (i + 1) := by rw [h.f]; congr 1
  have g1 : ρ.fn 1100 [(i : Int)] = d.f i := by rw [h.g]; congr 1
  have g2 : ρ.fn 1100 [(i : Int) + 1] = d.f (i + 1) := by rw [h.g]; congr 1
  have b1 := wf i (by omega)
  have b2 := wf (i + 1) (by omega)
  have b3 := wg i (by omega)
  have b4 := wg (i + 1) (by omega)
  have b5 := rf i (by omega)
  rw [e63] at h7 h9 h11 h16
  rw [f1, f2, w64 _ (by omega) (by omega)] at h7
  rw [f1, y2, w64 _ (by omega) (by omega)] at h9
  rw [g1, g2, w64 _ (by omega) (by omega)] at h11
  have m1 := mulAB (a := X - g.f i) (b := d.f (i + 1) - d.f i) (A := 2000000) (B := 2000000) (by omega) (by omega) (by omega) (by omega)
  have m2 := mulAB (a := d.f (i + 1) - d.f i) (b := X - g.f i) (A := 2000000) (B := g.f (i + 1) - g.f i) (by omega) (by omega) (by omega) (by omega)
  rw [Int.mul_comm (d.f (i + 1) - d.f i)] at m2
  have m3 := pup2_bd (m := (X - g.f i) * (d.f (i + 1) - d.f i)) (d := g.f (i + 1) - g.f i) (B := 2000000) (by omega) m2.1 m2.2
  have hpl : plook g.f d.f g.n x = d.f i + pup2 ((X - g.f i) * (d.f (i + 1) - d.f i)) (g.f (i + 1) - g.f i) := by
    rw [plook_at (i := i) (by rw [hX]; exact hi), hX]
    rfl
  rw [g1, h9, h11, h7, w64 ((X - g.f i) * (d.f (i + 1) - d.f i)) (by omega) (by omega)] at h16
  have e50 : ρ.fn 50 [(X - g.f i) * (d.f (i + 1) - d.f i), g.f (i + 1) - g.f i] = pup2 ((X - g.f i) * (d.f (i + 1) - d.f i)) (g.f (i + 1) - g.f i) := by rw [h.std.f rfl]; rfl
  rw [e50, w64 _ (by omega) (by omega)] at h16
  rw [h9, h11, h7, e63, w64 ((X - g.f i) * (d.f (i + 1) - d.f i)) (by omega) (by omega)]
  exact ⟨⟨by omega, by omega, by omega, by omega, by omega, by omega, by omega⟩, h16.trans hpl.symm, by omega, by omega⟩
set_option maxRecDepth 100000 in
set_option maxHeartbeats 1000000 in
theorem tableLook0 (g d : GD) (hk : g.ks = [true]) (hk' : d.ks = [true]) (hn : g.n ≤ 1000) (hn' : d.n ≤ 1000) (x : Int) (hx : B64 x) (hpl : pline g.f g.n d.f d.n = 0) (w : World) (o : g.ok w) (o' : d.ok w) :
    Calls Try.prog 149 #[.agg #[.slice g.A g.n g.c, .slice d.A d.n d.c], .int .i64 x] w fun e w' => e = .returned (.int .i64 (plook g.f d.f g.n x)) ∧ Below w.heap.size w w' := by
  obtain ⟨ρ0, h0, hm, s1, s2⟩ := ltwo_start o o' hk hk' hn hn' x ⟨fun _ => 0, fun _ => 0, fun _ => 0⟩
  obtain ⟨hnn, n2, n8, wf, rf, wg⟩ := pline_parts hpl
  have key := piece_ret (P := Try.prog) (cfg := cfgK tlSum tlKeeps 50 12) Try.func149 rfl (args := tlArgs) (H := []) (nx := 0) tl_ran0 tl_defs0 tl_no0 (V := .int .i64 (plook g.f d.f g.n x)) (LTwo g d x)
    (fun ρ h => ⟨h.std.et, tl_sum h.std (ltwo_ok o o') (ltwo_ks hk hk')⟩) (fun ρ ρ' h hs => h.same hs) (by kernel_rfl)
    (fun ρ h => by
      have h1 := h.l4
      have h2 := h.s4
      have h3 := h.l6
      have h4 := h.s6
      have h5 := h.ex
      have h6 := hx.1
      have h7 := hx.2
      refine List.forall_mem_cons.2 ⟨?_, List.forall_mem_cons.2 ⟨?_, List.forall_mem_cons.2 ⟨?_, fun _ h => nomatch h⟩⟩⟩
      · exact fit_of (z := ρ.iv 4) rfl (by show (0 : Int) ≤ ρ.iv 4; omega) (by show ρ.iv 4 ≤ 1000; omega)
      · exact fit_of (z := ρ.iv 6) rfl (by show (0 : Int) ≤ ρ.iv 6; omega) (by show ρ.iv 6 ≤ 1000; omega)
      · exact fit_of (z := ρ.iv 5) rfl (by show (-9223372036854775808 : Int) ≤ ρ.iv 5; omega) (by show ρ.iv 5 ≤ 9223372036854775807; omega))
    (fun ρ h hv => Eq.mpr (tl_w0 ρ) (by
      obtain ⟨h0, h1, h2, h3, h4, h5, h6, h7, h8, h9, h10, h11, h12, h13, h14, h15, h16, _⟩ := Eq.mp (tl_says0 ρ) hv
      obtain ⟨⟨u0, u1, u2, u3, u4, u5, u6⟩, u7, u8, u9⟩ := look_facts h hpl h3 h4 h7 h9 h11 h16
      exact ⟨fun _ => decide_eq_true u0, fun _ => decide_eq_true (by omega), fun _ => decide_eq_true (by omega), fun _ => decide_eq_true u1, fun _ => decide_eq_true (by omega), fun _ => decide_eq_true (by omega), fun _ => decide_eq_true (by omega), fun _ => decide_eq_true u3, fun _ => decide_eq_true u4, fun _ => decide_eq_true u5, fun _ => decide_eq_true u6, trivial⟩))
    (by
      refine List.forall_mem_cons.2 ⟨?_, fun _ h => nomatch h⟩
      · intro ρ h hv hp
        obtain ⟨h0, h1, h2, h3, h4, h5, h6, h7, h8, h9, h10, h11, h12, h13, h14, h15, h16, _⟩ := Eq.mp (tl_says0 ρ) hv
        obtain ⟨⟨u0, u1, u2, u3, u4, u5, u6⟩, u7, u8, u9⟩ := look_facts h hpl h3 h4 h7 h9 h11 h16
        refine ⟨.inr rfl, List.forall_mem_cons.2 ⟨?_, fun _ h => nomatch h⟩, [.int .i64 ⟨(.v 900), (-9223372036854775808), 9223372036854775807⟩], by kernel_rfl, fun b => ?_⟩
        · exact fit_of (z := plook g.f d.f g.n x) u7 (by show (-9223372036854775808 : Int) ≤ _; omega) (by show _ ≤ (9223372036854775807 : Int); omega)
        · show Value.int .i64 (ρ.iv 915445799494490897) = _
          rw [u7])
    h0 ⟨fun _ => 0, fun _ => 0, fun _ => 0⟩ w (noHeap _ _ _ _) ⟨s1, ⟨by show _ ≤ ρ0.iv 5; rw [h0.ex]; exact hx.1, by show ρ0.iv 5 ≤ _; rw [h0.ex]; exact hx.2⟩, trivial⟩ hm
  have e : SV.denL ρ0 ⟨fun _ => 0, fun _ => 0, fun _ => 0⟩ tlArgs = [.agg #[.slice g.A g.n g.c, .slice d.A d.n d.c], .int .i64 x] := by
    unfold tlArgs
    simp only [SV.denL]
    rw [s2]
    simp only [SV.den, E.i, h0.ex]
  rw [e] at key
  exact key
/-- At each round of the reference's look. -/
structure RLookI (g d : GD) (x : Int) (ρ : Env) : Prop where
  two : LTwo g d x ρ
  lo : 0 ≤ ρ.iv 13
  hi : ρ.iv 13 + 2 ≤ g.n
  first : g.f 0 < x
  last : x < g.f (g.n - 1)
  below : x < g.f ((ρ.iv 13).toNat + 1)
structure RLookI2 (g d : GD) (x : Int) (ρ : Env) : Prop where
  i : RLookI g d x ρ
  at_ : g.f (ρ.iv 13).toNat ≤ x
theorem RLookI.same {g d : GD} {x : Int} {ρ ρ' : Env} (h : RLookI g d x ρ) (hs : Same ρ ρ' [] []) : RLookI g d x ρ' ∧ (ρ'.iv 13).toNat = (ρ.iv 13).toNat := by
  have e := iv_same hs (n := 13) rfl
  exact ⟨⟨h.two.same hs, by rw [e]; exact h.lo, by rw [e]; exact h.hi, h.first, h.last, by rw [e]; exact h.below⟩, by rw [e]⟩
theorem rlook_facts {g d : GD} {x : Int} {ρ : Env} (hI : RLookI2 g d x ρ) (hpl : pline g.f g.n d.f d.n = 0)
    (h2 : ρ.iv 137219631953655616 = (IntKind.wrap .i64 ((ρ.fn 1000 (((ρ.iv 13) + (1 : Int)) :: [])) - (ρ.fn 1000 ((ρ.iv 13) :: [])))))
    (h4 : ρ.iv 1156344280580782723 = (IntKind.wrap .i64 ((ρ.fn 1100 ((ρ.iv 13) :: [])) * (IntKind.wrap .i64 ((ρ.fn 1000 (((ρ.iv 13) + (1 : Int)) :: [])) - (ρ.iv 5))))))
    (h6 : ρ.iv 178919818227887957 = (IntKind.wrap .i64 ((ρ.fn 1100 (((ρ.iv 13) + (1 : Int)) :: [])) * (IntKind.wrap .i64 ((ρ.iv 5) - (ρ.fn 1000 ((ρ.iv 13) :: []))))))) :
    (ρ.iv 6 = ρ.iv 4 ∧ ρ.iv 13 + 1 < ρ.iv 4 ∧ 0 < ρ.iv 137219631953655616 ∧ ρ.iv 137219631953655616 ≤ 4000000000000 ∧ -4400000000000000000 ≤ IntKind.wrap .i64 (ρ.iv 1156344280580782723 + ρ.iv 178919818227887957) ∧ IntKind.wrap .i64 (ρ.iv 1156344280580782723 + ρ.iv 178919818227887957) ≤ 4400000000000000000) ∧ ρ.fn 50 [IntKind.wrap .i64 (ρ.iv 1156344280580782723 + ρ.iv 178919818227887957), ρ.iv 137219631953655616] = plook g.f d.f g.n x ∧ -9000000000000000000 ≤ plook g.f d.f g.n x ∧ plook g.f d.f g.n x ≤ 9000000000000000000 := by
  obtain ⟨hnn, n2, n8, wf, rf, wg⟩ := pline_parts hpl
  obtain ⟨h, hat⟩ := hI
  have lo := h.lo
  have hi := h.hi
  have l4 := h.two.l4
  have l6 := h.two.l6
  obtain ⟨i, hi0⟩ : ∃ i : Nat, ρ.iv 13 = i := ⟨(ρ.iv 13).toNat, by omega⟩
  have bel := h.below
  rw [hi0] at hat bel h2 h4 h6 hi ⊢
  rw [Int.toNat_natCast] at hat bel
  have f1 : ρ.fn 1000 [(i : Int)] = g.f i := by rw [h.two.f]; congr 1
  have f2 : ρ.fn 1000 [(i : Int) + 1] = g.f (i + 1) := by rw [h.two.f]; congr 1
  have g1 : ρ.fn 1100 [(i : Int)] = d.f i := by rw [h.two.g]; congr 1
  have g2 : ρ.fn 1100 [(i : Int) + 1] = d.f (i + 1) := by rw [h.two.g]; congr 1
  have b1 := wf i (by omega)
  have b2 := wf (i + 1) (by omega)
  have b3 := wg i (by omega)
  have b4 := wg (i + 1) (by omega)
  rw [f1, f2, w64 _ (by omega) (by omega)] at h2
  rw [g1, f2, h.two.ex, w64 (g.f (i + 1) - x) (by omega) (by omega)] at h4
  rw [g2, f1, h.two.ex, w64 (x - g.f i) (by omega) (by omega)] at h6
  have m1 := mulAB (a := d.f i) (b := g.f (i + 1) - x) (A := 1000000) (B := 2000000) (by omega) (by omega) (by omega) (by omega)
  have m2 := mulAB (a := d.f (i + 1)) (b := x - g.f i) (A := 1000000) (B := 2000000) (by omega) (by omega) (by omega) (by omega)
  rw [w64 _ (by omega) (by omega)] at h4 h6
  have hm := plook_mid rf h.first h.last (i := i) (by omega) hat bel (g := d.f)
  have e50 : ρ.fn 50 [d.f i * (g.f (i + 1) - x) + d.f (i + 1) * (x - g.f i), g.f (i + 1) - g.f i] = prval g.f d.f i x := by rw [h.two.std.f rfl]; rfl
  have hb := pup2_big (n := d.f i * (g.f (i + 1) - x) + d.f (i + 1) * (x - g.f i)) (d := g.f (i + 1) - g.f i) (by omega) (by omega) (by omega)
  rw [h4, h6, h2, w64 (d.f i * (g.f (i + 1) - x) + d.f (i + 1) * (x - g.f i)) (by omega) (by omega), hm]
  exact ⟨⟨by omega, by omega, by omega, by omega, by omega, by omega⟩, e50, hb.1, hb.2⟩
set_option maxRecDepth 100000 in
set_option maxHeartbeats 1000000 in
theorem refLook0 (g d : GD) (hk : g.ks = [true]) (hk' : d.ks = [true]) (hn : g.n ≤ 1000) (hn' : d.n ≤ 1000) (x : Int) (hx : B64 x) (hpl : pline g.f g.n d.f d.n = 0) (w : World) (o : g.ok w) (o' : d.ok w) :
    Calls Try.prog 79 #[.agg #[.slice g.A g.n g.c, .slice d.A d.n d.c], .int .i64 x] w fun e w' => e = .returned (.int .i64 (plook g.f d.f g.n x)) ∧ Below w.heap.size w w' := by
  obtain ⟨ρ0, h0, hm, s1, s2⟩ := ltwo_start o o' hk hk' hn hn' x ⟨fun _ => 0, fun _ => 0, fun _ => 0⟩
  obtain ⟨hnn, n2, n8, wf, rf, wg⟩ := pline_parts hpl
  have key := loop1_ret (P := Try.prog) (cfg := cfgK rlSum rlKeeps 50 12) Try.func79 rfl (k := 7) (i := 0) (n := 11) (by decide +kernel) (by kernel_rfl) (args := rlArgs) (H := []) (nx := 0) rl_ran0 rl_defs0 rl_no0 rl_ran1 rl_defs1 rl_no1 rl_ran2 rl_defs2 rl_no2 (V := .int .i64 (plook g.f d.f g.n x)) (LTwo g d x) (RLookI g d x) (RLookI2 g d x) (fun ρ => (ρ.iv 13).toNat)
    (fun ρ h => ⟨h.std.et, rl_sum h.std⟩) (fun ρ h => ⟨h.two.std.et, rl_sum h.two.std⟩) (fun ρ ρ' h hs => h.same hs) (fun ρ ρ' h hs => h.same hs) (fun ρ h => h.i) (fun ρ ρ' h hs => ⟨(h.i.same hs).1, by rw [iv_same hs (n := 13) rfl]; exact h.at_⟩) (by kernel_rfl)
    (fun ρ h => by
      have h1 := h.l4
      have h2 := h.s4
      have h3 := h.l6
      have h4 := h.s6
      have h5 := h.ex
      have h6 := hx.1
      have h7 := hx.2
      refine List.forall_mem_cons.2 ⟨?_, List.forall_mem_cons.2 ⟨?_, List.forall_mem_cons.2 ⟨?_, fun _ h => nomatch h⟩⟩⟩
      · exact fit_of (z := ρ.iv 4) rfl (by show (0 : Int) ≤ ρ.iv 4; omega) (by show ρ.iv 4 ≤ 1000; omega)
      · exact fit_of (z := ρ.iv 6) rfl (by show (0 : Int) ≤ ρ.iv 6; omega) (by show ρ.iv 6 ≤ 1000; omega)
      · exact fit_of (z := ρ.iv 5) rfl (by show (-9223372036854775808 : Int) ≤ ρ.iv 5; omega) (by show ρ.iv 5 ≤ 9223372036854775807; omega))
    (fun ρ h => by
      have h1 := h.lo
      have h2 := h.hi
      have h3 := h.two.l4
      have h4 := h.two.s4
      have h5 := h.two.l6
      have h6 := h.two.s6
      have h7 := h.two.ex
      have h8 := hx.1
      have h9 := hx.2
      refine List.forall_mem_cons.2 ⟨?_, List.forall_mem_cons.2 ⟨?_, List.forall_mem_cons.2 ⟨?_, List.forall_mem_cons.2 ⟨?_, fun _ h => nomatch h⟩⟩⟩⟩
      · exact fit_of (z := ρ.iv 13) rfl (by show (0 : Int) ≤ ρ.iv 13; omega) (by show ρ.iv 13 ≤ 1000; omega)
      · exact fit_of (z := ρ.iv 5) rfl (by show (-9223372036854775808 : Int) ≤ ρ.iv 5; omega) (by show ρ.iv 5 ≤ 9223372036854775807; omega)
      · exact fit_of (z := ρ.iv 4) rfl (by show (0 : Int) ≤ ρ.iv 4; omega) (by show ρ.iv 4 ≤ 1000; omega)
      · exact fit_of (z := ρ.iv 6) rfl (by show (0 : Int) ≤ ρ.iv 6; omega) (by show ρ.iv 6 ≤ 1000; omega))
    (fun ρ h hv => Eq.mpr (rl_w0 ρ) (by
      have h1 := h.l4
      have h3 := h.l6
      exact ⟨fun _ => decide_eq_true (by omega), fun _ => decide_eq_true (by omega), fun _ => decide_eq_true (by omega), fun _ => decide_eq_true (by omega), fun _ => decide_eq_true (by omega), fun _ => decide_eq_true (by omega), trivial⟩))
    (fun ρ h hv => Eq.mpr (rl_w1 ρ) (by
      have h1 := h.hi
      have h3 := h.two.l4
      exact ⟨fun _ => decide_eq_true (by omega), trivial⟩))
    (fun ρ h hv => Eq.mpr (rl_w2 ρ) (by
      obtain ⟨h0, h1, h2, h3, h4, h5, h6, h7, h8, h9, h10, _⟩ := Eq.mp (rl_says2 ρ) hv
      obtain ⟨⟨u0, u1, u2, u3, u4, u5⟩, u6, u7, u8⟩ := rlook_facts h hpl h2 h4 h6
      exact ⟨fun _ => decide_eq_true u1, fun _ => decide_eq_true (by omega), fun _ => decide_eq_true (by omega), fun _ => decide_eq_true (by omega), fun _ => decide_eq_true u2, fun _ => decide_eq_true u3, fun _ => decide_eq_true u4, fun _ => decide_eq_true u5, trivial⟩))
    (by
      refine List.forall_mem_cons.2 ⟨?_, List.forall_mem_cons.2 ⟨?_, List.forall_mem_cons.2 ⟨?_, fun _ h => nomatch h⟩⟩⟩
      · intro ρ h hv hp
        obtain ⟨c0, _⟩ := Eq.mp (rl_0_pc0 ρ) hp
        have l4 := h.l4
        have eL : ρ.fn 1000 [ρ.iv 4 - 1] = g.f (g.n - 1) := by rw [h.f]; congr 1; omega
        have gL : ρ.fn 1100 [ρ.iv 4 - 1] = d.f (g.n - 1) := by rw [h.g]; congr 1; omega
        have bL := wg (g.n - 1) (by omega)
        rw [eL, h.ex] at c0
        have c0 := of_decide_eq_true c0
        have hpk := plook_last n2 rf c0 (g := d.f)
        refine .inl ⟨rfl, List.forall_mem_cons.2 ⟨?_, fun _ h => nomatch h⟩, [.int .i64 ⟨(.v 900), (-9223372036854775808), 9223372036854775807⟩], by kernel_rfl, fun b => ?_⟩
        · exact fit_of (z := d.f (g.n - 1)) gL (by show (-9223372036854775808 : Int) ≤ _; omega) (by show _ ≤ (9223372036854775807 : Int); omega)
        · show Value.int .i64 (ρ.fn 1100 [ρ.iv 4 - 1]) = _
          rw [gL, hpk]
      · intro ρ h hv hp
        obtain ⟨c0, c1, _⟩ := Eq.mp (rl_0_pc1 ρ) hp
        have e0 : ρ.fn 1000 [0] = g.f 0 := h.f 0
        have g0 : ρ.fn 1100 [0] = d.f 0 := h.g 0
        have bL := wg 0 (by omega)
        rw [e0, h.ex] at c0
        have c0 := of_decide_eq_true c0
        have hpk := plook_first n2 rf c0 (g := d.f)
        refine .inl ⟨rfl, List.forall_mem_cons.2 ⟨?_, fun _ h => nomatch h⟩, [.int .i64 ⟨(.v 900), (-9223372036854775808), 9223372036854775807⟩], by kernel_rfl, fun b => ?_⟩
        · exact fit_of (z := d.f 0) g0 (by show (-9223372036854775808 : Int) ≤ _; omega) (by show _ ≤ (9223372036854775807 : Int); omega)
        · show Value.int .i64 (ρ.fn 1100 [0]) = _
          rw [g0, hpk]
      · intro ρ h hv hp
        obtain ⟨c0, c1, _⟩ := Eq.mp (rl_0_pc2 ρ) hp
        refine .inr ⟨rfl, rfl, ?_⟩
        have l4 := h.l4
        have e0 : ρ.fn 1000 [0] = g.f 0 := h.f 0
        have eL : ρ.fn 1000 [ρ.iv 4 - 1] = g.f (g.n - 1) := by rw [h.f]; congr 1; omega
        rw [e0, h.ex] at c0
        rw [eL, h.ex] at c1
        have c0 := of_decide_eq_true c0
        have c1 := of_decide_eq_true c1
        refine ⟨⟨h.std.sub _, h.l4, h.l6, h.ex, h.s4, h.s6⟩, by show 0 ≤ ρ.iv 4 - 2; omega, by show ρ.iv 4 - 2 + 2 ≤ g.n; omega, c0, c1, ?_⟩
        show x < g.f ((ρ.iv 4 - 2).toNat + 1)
        have e : (ρ.iv 4 - 2).toNat + 1 = g.n - 1 := by omega
        rw [e]; exact c1)
    (by
      refine List.forall_mem_cons.2 ⟨?_, List.forall_mem_cons.2 ⟨?_, fun _ h => nomatch h⟩⟩
      · intro ρ h hv hp
        obtain ⟨c0, _⟩ := Eq.mp (rl_1_pc0 ρ) hp
        refine .inl ⟨rfl, rfl, ?_, ?_⟩
        · have h1 := h.lo
          have h2 := h.hi
          rw [h.two.f, h.two.ex] at c0
          have c0 := of_decide_eq_true c0
          have hne : ρ.iv 13 ≠ 0 := by
            intro e
            rw [e] at c0
            have := h.first
            have c1 : x < g.f 0 := c0
            omega
          refine ⟨⟨h.two.std.sub _, h.two.l4, h.two.l6, h.two.ex, h.two.s4, h.two.s6⟩, by show 0 ≤ ρ.iv 13 - 1; omega, by show ρ.iv 13 - 1 + 2 ≤ g.n; omega, h.first, h.last, ?_⟩
          show x < g.f ((ρ.iv 13 - 1).toNat + 1)
          have e : (ρ.iv 13 - 1).toNat + 1 = (ρ.iv 13).toNat := by omega
          rw [e]; exact c0
        · have h1 := h.lo
          rw [h.two.f, h.two.ex] at c0
          have c0 := of_decide_eq_true c0
          have hne : ρ.iv 13 ≠ 0 := by
            intro e
            rw [e] at c0
            have := h.first
            have c1 : x < g.f 0 := c0
            omega
          show (ρ.iv 13 - 1).toNat < (ρ.iv 13).toNat
          omega
      · intro ρ h hv hp
        obtain ⟨c0, _⟩ := Eq.mp (rl_1_pc1 ρ) hp
        refine .inr (.inl ⟨rfl, rfl, ?_⟩)
        rw [h.two.f, h.two.ex] at c0
        have c0 := of_decide_eq_true c0
        exact ⟨⟨⟨h.two.std.sub _, h.two.l4, h.two.l6, h.two.ex, h.two.s4, h.two.s6⟩, h.lo, h.hi, h.first, h.last, h.below⟩, c0⟩)
    (by
      refine List.forall_mem_cons.2 ⟨?_, fun _ h => nomatch h⟩
      · intro ρ h hv hp
        obtain ⟨h0, h1, h2, h3, h4, h5, h6, h7, h8, h9, h10, _⟩ := Eq.mp (rl_says2 ρ) hv
        obtain ⟨⟨u0, u1, u2, u3, u4, u5⟩, u6, u7, u8⟩ := rlook_facts h hpl h2 h4 h6
        refine ⟨.inr rfl, List.forall_mem_cons.2 ⟨?_, fun _ h => nomatch h⟩, [.int .i64 ⟨(.v 900), (-9000000000000000000), 9000000000000000000⟩], by kernel_rfl, fun b => ?_⟩
        · exact fit_of (z := plook g.f d.f g.n x) u6 (by show (-9000000000000000000 : Int) ≤ _; omega) (by show _ ≤ (9000000000000000000 : Int); omega)
        · show Value.int .i64 (ρ.fn 50 [IntKind.wrap .i64 (ρ.iv 1156344280580782723 + ρ.iv 178919818227887957), ρ.iv 137219631953655616]) = _
          rw [u6])
    h0 ⟨fun _ => 0, fun _ => 0, fun _ => 0⟩ w (noHeap _ _ _ _) ⟨s1, ⟨by show _ ≤ ρ0.iv 5; rw [h0.ex]; exact hx.1, by show ρ0.iv 5 ≤ _; rw [h0.ex]; exact hx.2⟩, trivial⟩ hm
  have e : SV.denL ρ0 ⟨fun _ => 0, fun _ => 0, fun _ => 0⟩ rlArgs = [.agg #[.slice g.A g.n g.c, .slice d.A d.n d.c], .int .i64 x] := by
    unfold rlArgs
    simp only [SV.denL]
    rw [s2]
    simp only [SV.den, E.i, h0.ex]
  rw [e] at key
  exact key
/-- At each round of the look whether a line falls. -/
structure RisesI (g d : GD) (ρ : Env) : Prop where
  two : LTwo g d 0 ρ
  ok : pline g.f g.n d.f d.n = 0
  lo : 1 ≤ ρ.iv 13
  hi : ρ.iv 13 ≤ d.n
  all : ∀ k, k + 1 < (ρ.iv 13).toNat → d.f k ≤ d.f (k + 1)
structure RisesI2 (g d : GD) (ρ : Env) : Prop where
  i : RisesI g d ρ
  all : ∀ k, k + 1 < d.n → d.f k ≤ d.f (k + 1)
theorem RisesI.same {g d : GD} {ρ ρ' : Env} (h : RisesI g d ρ) (hs : Same ρ ρ' [] []) : RisesI g d ρ' ∧ (d.n - ρ'.iv 13).toNat = (d.n - ρ.iv 13).toNat := by
  have e := iv_same hs (n := 13) rfl
  exact ⟨⟨h.two.same hs, h.ok, by rw [e]; exact h.lo, by rw [e]; exact h.hi, by rw [e]; exact h.all⟩, by rw [e]⟩
def prises (g d : GD) : Bool := decide (pline g.f g.n d.f d.n = 0) && pnofall d.f d.n
theorem ti_sum {G : Nat → GD} {ρ : Env} (h : Std lnF lnB G ρ) {w0 : World} (hG : ∀ k, (G k).ok w0) (hks : ∀ k, (G k).ks = [true]) : HOK Try.prog ρ tiSum :=
  biP_ok h hG hks rfl (mv := errV) (φ := fun g d => pline g.f g.n d.f d.n) (fun k m => rfl) (fun g d => pline_bd _ _ _ _) (fun r b => err_mk ρ h.et r b) (fun r N hr => hr) fun g d w hk hk' hn hn' o o' => tableCheck g d hk hk' hn hn' w o o'
set_option maxRecDepth 100000 in
set_option maxHeartbeats 1000000 in
theorem tableRises (g d : GD) (hk : g.ks = [true]) (hk' : d.ks = [true]) (hn : g.n ≤ 1000) (hn' : d.n ≤ 1000) (w : World) (o : g.ok w) (o' : d.ok w) :
    Calls Try.prog 82 #[.agg #[.slice g.A g.n g.c, .slice d.A d.n d.c]] w fun e w' => e = .returned (.bool (prises g d)) ∧ Below w.heap.size w w' := by
  obtain ⟨ρ0, h0, hm, s1, s2⟩ := ltwo_start o o' hk hk' hn hn' 0 ⟨fun _ => 0, fun _ => 0, fun _ => 0⟩
  have key := loop1_ret (P := Try.prog) (cfg := cfgK tiSum tiKeeps 50 12) Try.func82 rfl (k := 4) (i := 0) (n := 7) (by decide +kernel) (by kernel_rfl) (args := tiArgs) (H := []) (nx := 0) ti_ran0 ti_defs0 ti_no0 ti_ran1 ti_defs1 ti_no1 ti_ran2 ti_defs2 ti_no2 (V := .bool (prises g d)) (LTwo g d 0) (RisesI g d) (RisesI2 g d) (fun ρ => (d.n - ρ.iv 13).toNat)
    (fun ρ h => ⟨h.std.et, ti_sum h.std (ltwo_ok o o') (ltwo_ks hk hk')⟩) (fun ρ h => ⟨h.two.std.et, ti_sum h.two.std (ltwo_ok o o') (ltwo_ks hk hk')⟩) (fun ρ ρ' h hs => h.same hs) (fun ρ ρ' h hs => h.same hs) (fun ρ h => h.i) (fun ρ ρ' h hs => ⟨(h.i.same hs).1, h.all⟩) (by kernel_rfl)
    (fun ρ h => by
      have h1 := h.l4
      have h2 := h.s4
      have h3 := h.l6
      have h4 := h.s6
      refine List.forall_mem_cons.2 ⟨?_, List.forall_mem_cons.2 ⟨?_, fun _ h => nomatch h⟩⟩
      · exact fit_of (z := ρ.iv 4) rfl (by show (0 : Int) ≤ ρ.iv 4; omega) (by show ρ.iv 4 ≤ 1000; omega)
      · exact fit_of (z := ρ.iv 6) rfl (by show (0 : Int) ≤ ρ.iv 6; omega) (by show ρ.iv 6 ≤ 1000; omega))
    (fun ρ h => by
      have h1 := h.lo
      have h2 := h.hi
      have h3 := h.two.l4
      have h4 := h.two.s4
      have h5 := h.two.l6
      have h6 := h.two.s6
      refine List.forall_mem_cons.2 ⟨?_, List.forall_mem_cons.2 ⟨?_, List.forall_mem_cons.2 ⟨?_, fun _ h => nomatch h⟩⟩⟩
      · exact fit_of (z := ρ.iv 13) rfl (by show (1 : Int) ≤ ρ.iv 13; omega) (by show ρ.iv 13 ≤ 1000; omega)
      · exact fit_of (z := ρ.iv 4) rfl (by show (0 : Int) ≤ ρ.iv 4; omega) (by show ρ.iv 4 ≤ 1000; omega)
      · exact fit_of (z := ρ.iv 6) rfl (by show (0 : Int) ≤ ρ.iv 6; omega) (by show ρ.iv 6 ≤ 1000; omega))
    (fun ρ h hv => Eq.mpr (ti_w0 ρ) (by
      trivial))
    (fun ρ h hv => Eq.mpr (ti_w1 ρ) (by
      have h1 := h.lo
      have h3 := h.two.l6
      refine ⟨fun ⟨c, _⟩ => ?_, trivial⟩
      have c := of_decide_eq_true c
      exact decide_eq_true (by omega)))
    (fun ρ h hv => Eq.mpr (ti_w2 ρ) (by
      trivial))
    (by
      refine List.forall_mem_cons.2 ⟨?_, List.forall_mem_cons.2 ⟨?_, fun _ h => nomatch h⟩⟩
      · intro ρ h hv hp
        obtain ⟨c0, _⟩ := Eq.mp (ti_0_pc0 ρ) hp
        have e : ρ.fn 62 [0, 1] = pline g.f g.n d.f d.n := by rw [h.std.f rfl]; rfl
        rw [e] at c0
        have c0 : ¬ pline g.f g.n d.f d.n = 0 := by simpa using c0
        refine .inl ⟨rfl, (fun _ h => nomatch h), [.bool (.bc false)], by kernel_rfl, fun b => ?_⟩
        show Value.bool false = _
        unfold prises
        rw [decide_eq_false c0]
        rfl
      · intro ρ h hv hp
        obtain ⟨c0, _⟩ := Eq.mp (ti_0_pc1 ρ) hp
        have e : ρ.fn 62 [0, 1] = pline g.f g.n d.f d.n := by rw [h.std.f rfl]; rfl
        rw [e] at c0
        have c0 := of_decide_eq_true c0
        refine .inr ⟨rfl, rfl, ?_⟩
        obtain ⟨hnn, n2, n8, wf, rf, wg⟩ := pline_parts c0
        exact ⟨⟨h.std.sub _, h.l4, h.l6, h.ex, h.s4, h.s6⟩, c0, Int.le_refl _, by show (1 : Int) ≤ d.n; omega, fun k hk => absurd hk (by show ¬ k + 1 < 1; omega)⟩)
    (by
      refine List.forall_mem_cons.2 ⟨?_, List.forall_mem_cons.2 ⟨?_, List.forall_mem_cons.2 ⟨?_, fun _ h => nomatch h⟩⟩⟩
      · intro ρ h hv hp
        obtain ⟨c0, c1, _⟩ := Eq.mp (ti_1_pc0 ρ) hp
        refine .inr (.inr ⟨rfl, (fun _ h => nomatch h), [.bool (.bc false)], by kernel_rfl, fun b => ?_⟩)
        have c := of_decide_eq_true c0
        have c1 := of_decide_eq_true c1
        have h1 := h.lo
        have h2 := h.hi
        have l6 := h.two.l6
        rw [h.two.g, h.two.g] at c
        have e : (ρ.iv 13 - 1).toNat + 1 = (ρ.iv 13).toNat := by omega
        have hf : pnofall d.f d.n = false := by
          cases hq : pnofall d.f d.n with
          | false => rfl
          | true =>
            have := pnofall_iff.1 hq (ρ.iv 13 - 1).toNat (by omega)
            rw [e] at this
            omega
        show Value.bool false = _
        unfold prises
        rw [hf, Bool.and_false]
      · intro ρ h hv hp
        obtain ⟨c0, c1, _⟩ := Eq.mp (ti_1_pc1 ρ) hp
        refine .inl ⟨rfl, rfl, ?_, ?_⟩
        · have c := of_decide_eq_true c0
          have c1 := of_decide_eq_true c1
          have h1 := h.lo
          have h2 := h.hi
          have l6 := h.two.l6
          rw [h.two.g, h.two.g] at c
          refine ⟨⟨h.two.std.sub _, h.two.l4, h.two.l6, h.two.ex, h.two.s4, h.two.s6⟩, h.ok, by show 1 ≤ ρ.iv 13 + 1; omega, by show ρ.iv 13 + 1 ≤ d.n; omega, ?_⟩
          show ∀ k, k + 1 < (ρ.iv 13 + 1).toNat → _
          intro k hk
          by_cases hk' : k + 1 < (ρ.iv 13).toNat
          · exact h.all k hk'
          · have e1 : (ρ.iv 13 - 1).toNat = k := by omega
            have e2 : (ρ.iv 13).toNat = k + 1 := by omega
            rw [e1, e2] at c
            exact c
        · have c1 := of_decide_eq_true c1
          have l6 := h.two.l6
          show (d.n - (ρ.iv 13 + 1)).toNat < (d.n - ρ.iv 13).toNat
          omega
      · intro ρ h hv hp
        obtain ⟨c0, _⟩ := Eq.mp (ti_1_pc2 ρ) hp
        refine .inr (.inl ⟨rfl, rfl, ?_⟩)
        have c1 := of_decide_eq_true c0
        have h2 := h.hi
        have l6 := h.two.l6
        have e : (ρ.iv 13).toNat = d.n := by omega
        exact ⟨⟨⟨h.two.std.sub _, h.two.l4, h.two.l6, h.two.ex, h.two.s4, h.two.s6⟩, h.ok, h.lo, h.hi, h.all⟩, by rw [← e]; exact h.all⟩)
    (by
      refine List.forall_mem_cons.2 ⟨?_, fun _ h => nomatch h⟩
      · intro ρ h hv hp
        refine ⟨.inr rfl, (fun _ h => nomatch h), [.bool (.bc true)], by kernel_rfl, fun b => ?_⟩
        show Value.bool true = _
        unfold prises
        rw [decide_eq_true h.i.ok, pnofall_iff.2 h.all]
        rfl)
    h0 ⟨fun _ => 0, fun _ => 0, fun _ => 0⟩ w (noHeap _ _ _ _) ⟨s1, trivial⟩ hm
  have e : SV.denL ρ0 ⟨fun _ => 0, fun _ => 0, fun _ => 0⟩ tiArgs = [.agg #[.slice g.A g.n g.c, .slice d.A d.n d.c]] := by
    unfold tiArgs
    simp only [SV.denL]
    rw [s2]
  rw [e] at key
  exact key
end Go.Proofs.Ytdfpenjhpemokaa.Sx
