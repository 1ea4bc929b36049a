/-
  The law HoldMade walked.
-/
import Derived.Test.YtdfpenjhpemokaaHoldMadeARun
import Derived.Test.YtdfpenjhpemokaaHoldMadeBRun
import Derived.Test.YtdfpenjhpemokaaHoldMadeCRun
import Derived.Test.YtdfpenjhpemokaaHoldMadeDRun
import Derived.Test.YtdfpenjhpemokaaRow
import Derived.Test.YtdfpenjhpemokaaFrame
set_option linter.unusedVariables false
set_option linter.unusedSimpArgs false
namespace Go.Proofs.Ytdfpenjhpemokaa.Sx
open Go.RowKit
/-- Two lists of raw numbers, and a number beside them. -/
structure HmJ (g d : GD) (z : Int) (ρ : Env) : Prop where
  std : Std hmF noB (two g d) ρ
  l4 : ρ.iv 4 = g.n
  l6 : ρ.iv 6 = d.n
  e5 : ρ.iv 5 = z
theorem HmJ.same {g d : GD} {z : Int} {ρ ρ' : Env} (h : HmJ g d z ρ) (hs : Same ρ ρ' [] []) : HmJ g d z ρ' := ⟨h.std.same hs, (iv_same hs (n := 4) rfl).trans h.l4, (iv_same hs (n := 6) rfl).trans h.l6, (iv_same hs (n := 5) rfl).trans h.e5⟩
theorem hm_start {g d : GD} {w : World} (o : g.ok w) (o' : d.ok w) (hk : g.ks = [true]) (hk' : d.ks = [true]) (z : Int) (b : Bd) : ∃ ρ, HmJ g d z ρ ∧ Mem ρ (· < w.heap.size) w ∧ (SV.osl 0 [.int .i64 (-9223372036854775808) 9223372036854775807] ⟨.v 4, 0, 9223372036854775807⟩).ok ρ (· < 0) ∧ (SV.osl 0 [.int .i64 (-9223372036854775808) 9223372036854775807] ⟨.v 4, 0, 9223372036854775807⟩).den ρ b = .slice g.A g.n g.c ∧ (SV.osl 1 [.int .i64 (-9223372036854775808) 9223372036854775807] ⟨.v 6, 0, 9223372036854775807⟩).ok ρ (· < 0) ∧ (SV.osl 1 [.int .i64 (-9223372036854775808) 9223372036854775807] ⟨.v 6, 0, 9223372036854775807⟩).den ρ b = .slice d.A d.n d.c := by
  obtain ⟨q, q5⟩ := gen_osl (et := 23) (iv := fun n => match n with | 4 => g.n | 5 => z | 6 => d.n | _ => 0) (bv := fun _ => false) (fn := hmF (two g d)) (fb := noB (two g d)) (fl := fun _ _ => []) (two_ok o o') (k := 0) (m := 4) (sh := [.int .i64 (-9223372036854775808) 9223372036854775807]) (by show g.ks.map ckOf = _; rw [hk]; rfl) rfl (by show g.ks.length ≤ 100; rw [hk]; decide) (· < 0) b
  obtain ⟨r, r5⟩ := gen_osl (et := 23) (iv := fun n => match n with | 4 => g.n | 5 => z | 6 => d.n | _ => 0) (bv := fun _ => false) (fn := hmF (two g d)) (fb := noB (two g d)) (fl := fun _ _ => []) (two_ok o o') (k := 1) (m := 6) (sh := [.int .i64 (-9223372036854775808) 9223372036854775807]) (by show d.ks.map ckOf = _; rw [hk']; rfl) rfl (by show d.ks.length ≤ 100; rw [hk']; decide) (· < 0) b
  exact ⟨genEnv 23 (fun n => match n with | 4 => g.n | 5 => z | 6 => d.n | _ => 0) (fun _ => false) (hmF (two g d)) (noB (two g d)) (fun _ _ => []) (two g d), ⟨Std.gen () _ _ _, rfl, rfl, rfl⟩, gen_mem (two_ok o o'), q, q5, r, r5⟩
theorem osl_pos {k : Nat} {sh : List CK} {e : E} {h : Int} {ρ : Env} {N : Nat → Prop} {b : Bd} {v : Value} (a : (SV.osl k sh ⟨e, 0, h⟩).ok ρ N) (d : (SV.osl k sh ⟨e, 0, h⟩).den ρ b = v) (p : 1 ≤ e.i ρ) : (SV.osl k sh ⟨e, 1, h⟩).ok ρ N ∧ (SV.osl k sh ⟨e, 1, h⟩).den ρ b = v := by
  obtain ⟨q1, q2, q3, q4⟩ := a
  exact ⟨⟨⟨p, q1.2⟩, by show (0 : Int) ≤ 1; decide, q3, q4⟩, by simp only [SV.den] at d ⊢; exact d⟩
theorem osl_zero {k : Nat} {sh : List CK} {e : E} {h : Int} {ρ : Env} {N : Nat → Prop} {b : Bd} {v : Value} (a : (SV.osl k sh ⟨e, 0, h⟩).ok ρ N) (d : (SV.osl k sh ⟨e, 0, h⟩).den ρ b = v) (p : e.i ρ = 0) : (SV.osl k sh ⟨.c 0, 0, 0⟩).ok ρ N ∧ (SV.osl k sh ⟨.c 0, 0, 0⟩).den ρ b = v := by
  obtain ⟨q1, q2, q3, q4⟩ := a
  refine ⟨⟨⟨Int.le_refl _, Int.le_refl _⟩, Int.le_refl _, fun i hi => ?_, ?_⟩, ?_⟩
  · have : (i : Int) < 0 := hi
    omega
  · show (0 : Int) = ρ.ol k
    rw [← q4]; exact p.symm
  · simp only [SV.den] at d ⊢
    rw [p] at d
    exact d
theorem near_bd {P : Int → Int → Int} (hP : ∀ x n, 1 ≤ n → 0 ≤ P x n ∧ P x n < n) {d40 d71 y72 d69 d93 y107 d73 y108 : Int} (e72 : y72 = P d71 (if decide (P d40 2 = 0) = true then 60 else 65537)) (e107 : y107 = (100 + P d69 900) - P d93 1200) (e108 : y108 = P d73 300 * P d93 1200) :
    -4400000000000000000 ≤ y72 * y107 + y108 ∧ y72 * y107 + y108 ≤ 4400000000000000000 := by
  have p1 := hP d71 (if decide (P d40 2 = 0) = true then 60 else 65537) (by split <;> omega)
  have p1' : P d71 (if decide (P d40 2 = 0) = true then 60 else 65537) < 65538 := by
    refine Int.lt_of_lt_of_le p1.2 ?_
    split <;> omega
  have p2 := hP d69 900 (by omega)
  have p3 := hP d93 1200 (by omega)
  have p4 := hP d73 300 (by omega)
  have m1 := mulAB (a := y72) (b := y107) (A := 65538) (B := 2000) (by omega) (by omega) (by omega) (by omega)
  have m2 := mulAB (a := P d73 300) (b := P d93 1200) (A := 300) (B := 1200) (by omega) (by omega) (by omega) (by omega)
  omega
theorem wide_bd {P : Int → Int → Int} (hP : ∀ x n, 1 ≤ n → 0 ≤ P x n ∧ P x n < n) {B : Int → Int → Int → Int} (hB : ∀ p r s, 1 ≤ r → r ≤ 4000 → s + p ≤ 6000 → 0 ≤ B p r s ∧ B p r s ≤ 36006000) {d18 y17 y32 y9 y8 y33 y34 y35 d38 d37 y39 d40 y41 y42 y43 : Int}
    (e17 : 1 ≤ y17 ∧ y17 ≤ 1001) (k9 : 1 ≤ y9) (k98 : y9 ≤ y8) (k8 : y8 ≤ 3000) (k6 : y8 + y32 ≤ 6000) (e33 : y33 = P d18 y17 + B y32 y9 y8) (e34 : y34 = P d18 y17 + B y32 y8 y8) (e35 : y35 = if decide (150000 < 2 * y33) = true then 2 * y34 else 2 * y33)
    (e39 : y39 = P d38 (if decide (P d37 2 = 0) = true then 3 else 3000)) (e41 : y41 = P d40 (min (y35 + y39) 100000 + 1)) (e42 : y42 = max (0 - y41) ((y35 + y39) - 200000) + (y35 + y39))
    (e43 : y43 = if decide (100000 < y42) = true then 100000 - (y35 + y39) else max (0 - y41) ((y35 + y39) - 200000)) :
    (-100000000 ≤ y43 ∧ y43 ≤ 100000000) ∧ (-100000 ≤ (if decide (100000 < y42) = true then 100000 else y42) ∧ (if decide (100000 < y42) = true then 100000 else y42) ≤ 100000) ∧ y43 ≤ (if decide (100000 < y42) = true then 100000 else y42) := by
  have p1 := hP d18 y17 e17.1
  have b1 := hB y32 y9 y8 k9 (by omega) k6
  have b2 := hB y32 y8 y8 (by omega) (by omega) k6
  have p2 := hP d38 (if decide (P d37 2 = 0) = true then 3 else 3000) (by split <;> omega)
  have p2' : P d38 (if decide (P d37 2 = 0) = true then 3 else 3000) < 3001 := by
    refine Int.lt_of_lt_of_le p2.2 ?_
    split <;> omega
  have : 0 ≤ y35 ∧ y35 ≤ 73000000 := by rw [e35]; split <;> omega
  have p3 := hP d40 (min (y35 + y39) 100000 + 1) (by omega)
  rw [← e41] at p3
  rw [e43]
  by_cases hc : 100000 < y42
  · simp only [decide_eq_true hc, if_true]
    omega
  · simp only [decide_eq_false hc, Bool.false_eq_true, if_false]
    omega
/-- A rule that was made, the other list, and the number. -/
structure HmI (g d : GD) (z : Int) (ρ : Env) : Prop where
  std : Std hmF noB (two g d) ρ
  l6 : ρ.iv 6 = d.n
  e5 : ρ.iv 5 = z
  n6 : 1 ≤ ρ.iv 6 ∧ ρ.iv 6 ≤ 100
  b20 : -100000000 ≤ ρ.iv 20 ∧ ρ.iv 20 ≤ 100000000
  b21 : -100000 ≤ ρ.iv 21 ∧ ρ.iv 21 ≤ 100000
  b22 : 0 ≤ ρ.iv 22 ∧ ρ.iv 22 < 1001
  b23 : 0 ≤ ρ.iv 23 ∧ ρ.iv 23 < 65537
  b24 : 1 ≤ ρ.iv 24 ∧ ρ.iv 24 ≤ 3000
  b25 : 100 ≤ ρ.iv 25 ∧ ρ.iv 25 ≤ 999
  b26 : 0 ≤ ρ.iv 26 ∧ ρ.iv 26 < 65537
  b27 : 0 ≤ ρ.iv 27 ∧ ρ.iv 27 < 300
  le : ρ.iv 20 ≤ ρ.iv 21
theorem HmI.same {g d : GD} {z : Int} {ρ ρ' : Env} (h : HmI g d z ρ) (hs : Same ρ ρ' [] []) : HmI g d z ρ' := by
  have e : ∀ n, Nat.blt n 1000 = true → ρ'.iv n = ρ.iv n := fun n hn => iv_same hs hn
  refine ⟨h.std.same hs, (e 6 rfl).trans h.l6, (e 5 rfl).trans h.e5, ?_, ?_, ?_, ?_, ?_, ?_, ?_, ?_, ?_, ?_⟩
  · rw [e 6 rfl]; exact h.n6
  · rw [e 20 rfl]; exact h.b20
  · rw [e 21 rfl]; exact h.b21
  · rw [e 22 rfl]; exact h.b22
  · rw [e 23 rfl]; exact h.b23
  · rw [e 24 rfl]; exact h.b24
  · rw [e 25 rfl]; exact h.b25
  · rw [e 26 rfl]; exact h.b26
  · rw [e 27 rfl]; exact h.b27
  · rw [e 20 rfl, e 21 rfl]; exact h.le
set_option maxRecDepth 100000 in
set_option maxHeartbeats 1000000 in
theorem holdMade_A (g d : GD) (hk : g.ks = [true]) (hk' : d.ks = [true]) (hn : 0 < g.n) (hn' : 0 < d.n) (z : Int) (hz : B64 z) (w : World) (o : g.ok w) (o' : d.ok w) :
    Calls Try.prog 21 #[.slice g.A g.n g.c, .slice d.A d.n d.c, .int .i64 z] w fun e w' => e = .returned (.bool true) ∧ Below w.heap.size w w' := by
  obtain ⟨ρ0, h0, hm, s1, s2, r1, r2⟩ := hm_start o o' hk hk' z ⟨fun _ => 0, fun _ => 0, fun _ => 0⟩
  have on := o.n
  have on' := o'.n
  obtain ⟨s1, s2⟩ := osl_pos s1 s2 (by show 1 ≤ ρ0.iv 4; rw [h0.l4]; omega)
  obtain ⟨r1, r2⟩ := osl_pos r1 r2 (by show 1 ≤ ρ0.iv 6; rw [h0.l6]; omega)
  have key := cut_ret (P := Try.prog) (cfg := cfgK hMSum hAKeeps 50 12) Try.func21 rfl (k := 4) (n := 10) (by decide +kernel) (args := hAArgs) (H := []) (nx := 0) hA_ran0 hA_defs0 hA_no0 hA_ran1 hA_defs1 hA_no1 (V := .bool true) (HmJ g d z) (HmI g d z)
    (fun ρ h => ⟨h.std.et, hM_sum h.std⟩) (fun ρ h => ⟨h.std.et, hM_sum h.std⟩) (fun ρ ρ' h hs => h.same hs) (fun ρ ρ' h hs => h.same hs) (by kernel_rfl)
    (fun ρ h => by
      have h1 := h.l4
      have h2 := h.l6
      have h5 := h.e5
      have on := o.n
      have on' := o'.n
      unfold B64 at hz
      refine List.forall_mem_cons.2 ⟨?_, List.forall_mem_cons.2 ⟨?_, List.forall_mem_cons.2 ⟨?_, fun _ h => nomatch h⟩⟩⟩
      · exact fit_of (z := ρ.iv 4) rfl (by show (1 : Int) ≤ ρ.iv 4; omega) (by show ρ.iv 4 ≤ 9223372036854775807; omega)
      · exact fit_of (z := ρ.iv 6) rfl (by show (1 : Int) ≤ ρ.iv 6; omega) (by show ρ.iv 6 ≤ 9223372036854775807; omega)
      · exact fit_of (z := ρ.iv 5) rfl (by show (-9223372036854775808 : Int) ≤ ρ.iv 5; omega) (by show ρ.iv 5 ≤ 9223372036854775807; omega))
    (fun ρ h => by
      have h5 := h.e5
      have h6 := h.n6
      unfold B64 at hz
      have k20 := h.b20
      have k21 := h.b21
      have k22 := h.b22
      have k23 := h.b23
      have k24 := h.b24
      have k25 := h.b25
      have k26 := h.b26
      have k27 := h.b27
      refine List.forall_mem_cons.2 ⟨?_, List.forall_mem_cons.2 ⟨?_, List.forall_mem_cons.2 ⟨?_, List.forall_mem_cons.2 ⟨?_, List.forall_mem_cons.2 ⟨?_, List.forall_mem_cons.2 ⟨?_, List.forall_mem_cons.2 ⟨?_, List.forall_mem_cons.2 ⟨?_, List.forall_mem_cons.2 ⟨?_, List.forall_mem_cons.2 ⟨?_, List.forall_mem_cons.2 ⟨?_, fun _ h => nomatch h⟩⟩⟩⟩⟩⟩⟩⟩⟩⟩⟩
      · exact fit_of (z := ρ.iv 6) rfl (by show (1 : Int) ≤ ρ.iv 6; omega) (by show ρ.iv 6 ≤ 100; omega)
      · exact fit_of (z := ρ.iv 5) rfl (by show (-9223372036854775808 : Int) ≤ ρ.iv 5; omega) (by show ρ.iv 5 ≤ 9223372036854775807; omega)
      · exact fit_of (z := ρ.iv 20) rfl (by show (-100000000 : Int) ≤ ρ.iv 20; omega) (by show ρ.iv 20 ≤ 100000000; omega)
      · exact fit_of (z := ρ.iv 21) rfl (by show (-100000 : Int) ≤ ρ.iv 21; omega) (by show ρ.iv 21 ≤ 100000; omega)
      · exact fit_of (z := ρ.iv 22) rfl (by show (0 : Int) ≤ ρ.iv 22; omega) (by show ρ.iv 22 ≤ 1000; omega)
      · exact fit_of (z := ρ.iv 23) rfl (by show (0 : Int) ≤ ρ.iv 23; omega) (by show ρ.iv 23 ≤ 65536; omega)
      · exact fit_of (z := ρ.iv 24) rfl (by show (1 : Int) ≤ ρ.iv 24; omega) (by show ρ.iv 24 ≤ 3000; omega)
      · exact fit_of (z := ρ.iv 26) rfl (by show (0 : Int) ≤ ρ.iv 26; omega) (by show ρ.iv 26 ≤ 65536; omega)
      · exact fit_of (z := ρ.iv 27) rfl (by show (0 : Int) ≤ ρ.iv 27; omega) (by show ρ.iv 27 ≤ 299; omega)
      · exact fit_const _ _
      · exact fit_of (z := ρ.iv 25) rfl (by show (100 : Int) ≤ ρ.iv 25; omega) (by show ρ.iv 25 ≤ 999; omega))
    (fun ρ h hv => Eq.mpr (hA_w0 ρ) (by
      obtain ⟨-, -, -, -, -, -, -, h7, -, -, -, -, h12, h13, h14, -, -, h17, h18, -, -, h21, -, -, -, -, -, h27, -, -, -, -, -, -, -, -, -, -, -, -, -, -, -, -, -, -, -, -, -, -, -, -, -, h53, -, h55, -, h57, h58, -, -, -, -, -, h64, -, -, h67, h68, h69, -, -, -, -, h74, -, -, -, -, h79, h80, h81, -, -, h84, h85, -, -, h88, -, -, -, -, -, h94, -, -, -, -, -, -, -, -, -, -, -, -, -, -, -, -, -, -, -, -, -, -, -, -, -, h120, -, h122, -, h124, h125, -, -, -, -, -, h131, -, -, h134, h135, h136, -⟩ := Eq.mp (hA_says0 ρ) hv
      have hP : ∀ x n, 1 ≤ n → 0 ≤ ρ.fn 8 [x, n] ∧ ρ.fn 8 [x, n] < n := by
        intro x n hn
        rw [h.std.f rfl]
        exact ⟨Int.emod_nonneg x (by omega), Int.emod_lt_of_pos x (by omega)⟩
      have hB : ∀ p r s, 1 ≤ r → 0 ≤ ρ.fn 9 [p, r, s] := by
        intro p r s hr
        rw [h.std.f rfl]
        exact pbrake_nonneg hr s
      have hp4 : 0 < ρ.iv 4 := by have := h.l4; omega
      have A0 := axis_ok (P := fun x n => ρ.fn 8 [x, n]) hP (three_ok (P := fun x n => ρ.fn 8 [x, n]) h7 (by decide) (by decide) (by decide) (by decide)) h12 h13 h14 (three_ok (P := fun x n => ρ.fn 8 [x, n]) h17 (by decide) (by decide) (by decide) (by decide)) h18 h21 h53
      have A1 := axis_ok (P := fun x n => ρ.fn 8 [x, n]) hP (three_ok (P := fun x n => ρ.fn 8 [x, n]) h74 (by decide) (by decide) (by decide) (by decide)) h79 h80 h81 (three_ok (P := fun x n => ρ.fn 8 [x, n]) h84 (by decide) (by decide) (by decide) (by decide)) h85 h88 h120
      exact ⟨fun _ => decide_eq_true hp4, fun _ => decide_eq_true (Int.emod_lt_of_pos _ hp4), fun _ => decide_eq_true (Int.emod_lt_of_pos _ hp4), fun _ => decide_eq_true (Int.emod_lt_of_pos _ hp4), fun _ => decide_eq_true (Int.emod_lt_of_pos _ hp4), fun _ => decide_eq_true (Int.emod_lt_of_pos _ hp4), fun _ => decide_eq_true (Int.emod_lt_of_pos _ hp4), fun _ => decide_eq_true (Int.emod_lt_of_pos _ hp4), fun _ => decide_eq_true (Int.emod_lt_of_pos _ hp4), fun _ => decide_eq_true A0.1, fun _ => decide_eq_true (Int.emod_lt_of_pos _ hp4), fun _ => decide_eq_true (Int.emod_lt_of_pos _ hp4), fun _ => decide_eq_true (Int.emod_lt_of_pos _ hp4), fun _ => decide_eq_true (Int.emod_lt_of_pos _ hp4), fun _ => decide_eq_true (Int.emod_lt_of_pos _ hp4), fun _ => decide_eq_true (Int.emod_lt_of_pos _ hp4), fun _ => decide_eq_true (Int.emod_lt_of_pos _ hp4), fun _ => decide_eq_true (Int.emod_lt_of_pos _ hp4), fun _ => decide_eq_true (Int.emod_lt_of_pos _ hp4), fun _ => decide_eq_true (Int.emod_lt_of_pos _ hp4), fun _ => decide_eq_true (Int.emod_lt_of_pos _ hp4), fun _ => decide_eq_true (Int.emod_lt_of_pos _ hp4), fun _ => decide_eq_true A0.2.1, fun _ => decide_eq_true A0.2.1, fun _ => decide_eq_true (Int.emod_lt_of_pos _ hp4), fun _ => decide_eq_true (Int.emod_lt_of_pos _ hp4), fun _ => decide_eq_true (Int.emod_lt_of_pos _ hp4), fun _ => decide_eq_true (Int.emod_lt_of_pos _ hp4), fun _ => decide_eq_true (Int.emod_lt_of_pos _ hp4), fun _ => decide_eq_true (Int.emod_lt_of_pos _ hp4), fun _ => decide_eq_true (Int.emod_lt_of_pos _ hp4), fun _ => decide_eq_true (Int.emod_lt_of_pos _ hp4), fun _ => decide_eq_true (Int.emod_lt_of_pos _ hp4), fun _ => decide_eq_true (Int.emod_lt_of_pos _ hp4), fun _ => decide_eq_true A1.1, fun _ => decide_eq_true (Int.emod_lt_of_pos _ hp4), fun _ => decide_eq_true (Int.emod_lt_of_pos _ hp4), fun _ => decide_eq_true (Int.emod_lt_of_pos _ hp4), fun _ => decide_eq_true (Int.emod_lt_of_pos _ hp4), fun _ => decide_eq_true (Int.emod_lt_of_pos _ hp4), fun _ => decide_eq_true (Int.emod_lt_of_pos _ hp4), fun _ => decide_eq_true (Int.emod_lt_of_pos _ hp4), fun _ => decide_eq_true (Int.emod_lt_of_pos _ hp4), fun _ => decide_eq_true (Int.emod_lt_of_pos _ hp4), fun _ => decide_eq_true (Int.emod_lt_of_pos _ hp4), fun _ => decide_eq_true (Int.emod_lt_of_pos _ hp4), fun _ => decide_eq_true (Int.emod_lt_of_pos _ hp4), fun _ => decide_eq_true A1.2.1, fun _ => decide_eq_true A1.2.1, fun _ => decide_eq_true (Int.emod_lt_of_pos _ hp4), fun _ => decide_eq_true (Int.emod_lt_of_pos _ hp4), fun _ => decide_eq_true (Int.emod_lt_of_pos _ hp4), trivial⟩))
    (fun ρ h hv => Eq.mpr (hA_w1 ρ) (by
      obtain ⟨-, -, -, -, -, -, -, -, -, -, -, -, -, -, -, -, -, -, -, -, -, -, -, -, -, -, -, -, h28, -, -, -, -, -, -, -, -, -, -, -⟩ := Eq.mp (hA_says1 ρ) hv
      have hP : ∀ x n, 1 ≤ n → 0 ≤ ρ.fn 8 [x, n] ∧ ρ.fn 8 [x, n] < n := by
        intro x n hn
        rw [h.std.f rfl]
        exact ⟨Int.emod_nonneg x (by omega), Int.emod_lt_of_pos x (by omega)⟩
      have b25 := h.b25
      have b26 := h.b26
      have b27 := h.b27
      have p := hP (ρ.iv 608573694966553957) 1200 (by decide)
      have q20 : -4400000000000000000 ≤ ρ.iv 1358455072901478885 ∧ ρ.iv 1358455072901478885 ≤ 4400000000000000000 := by
        rw [h28]
        have m1 := mulAB (a := ρ.iv 26) (b := ρ.iv 25 - ρ.fn 8 [(ρ.iv 608573694966553957), 1200]) (A := 65538) (B := 2000) (by omega) (by omega) (by omega) (by omega)
        have m2 := mulAB (a := ρ.iv 27) (b := ρ.fn 8 [(ρ.iv 608573694966553957), 1200]) (A := 300) (B := 1200) (by omega) (by omega) (by omega) (by omega)
        omega
      exact ⟨fun _ => decide_eq_true (by have := h.n6; omega), fun _ => decide_eq_true (by have := h.le; omega), fun _ => decide_eq_true (Int.emod_lt_of_pos _ (by have := h.n6; omega)), fun _ => decide_eq_true (Int.emod_lt_of_pos _ (by have := h.n6; omega)), fun _ => decide_eq_true (Int.emod_lt_of_pos _ (by have := h.n6; omega)), fun _ => decide_eq_true (Int.emod_lt_of_pos _ (by have := h.n6; omega)), fun _ => decide_eq_true (Int.emod_lt_of_pos _ (by have := h.n6; omega)), fun _ => decide_eq_true (Int.emod_lt_of_pos _ (by have := h.n6; omega)), fun _ => decide_eq_true (Int.emod_lt_of_pos _ (by have := h.n6; omega)), fun _ => decide_eq_true (by have := h.b25; omega), fun _ => decide_eq_true (by have := h.b25; omega), fun _ => decide_eq_true q20.1, fun _ => decide_eq_true q20.2, trivial⟩))
    (by
      refine List.forall_mem_cons.2 ⟨?_, List.forall_mem_cons.2 ⟨?_, fun _ h => nomatch h⟩⟩
      · intro ρ h hv hp
        exact .inl ⟨rfl, (fun _ h => nomatch h), [.bool (.bc true)], by kernel_rfl, fun b => rfl⟩
      · intro ρ h hv hp
        obtain ⟨c0, _⟩ := Eq.mp (hA_0_pc1 ρ) hp
        refine .inr ⟨rfl, rfl, ?_⟩
        obtain ⟨-, -, -, -, -, -, -, h7, -, -, -, -, h12, h13, h14, -, -, h17, h18, -, -, h21, -, -, -, -, -, h27, -, -, -, -, -, -, -, -, -, -, -, -, -, -, -, -, -, -, -, -, -, -, -, -, -, h53, -, h55, -, h57, h58, -, -, -, -, -, h64, -, -, h67, h68, h69, -, -, -, -, h74, -, -, -, -, h79, h80, h81, -, -, h84, h85, -, -, h88, -, -, -, -, -, h94, -, -, -, -, -, -, -, -, -, -, -, -, -, h108, -, -, -, -, -, -, -, -, h117, -, -, h120, -, h122, -, h124, h125, -, -, -, -, -, h131, -, -, h134, h135, h136, -⟩ := Eq.mp (hA_says0 ρ) hv
        have hP : ∀ x n, 1 ≤ n → 0 ≤ ρ.fn 8 [x, n] ∧ ρ.fn 8 [x, n] < n := by
          intro x n hn
          rw [h.std.f rfl]
          exact ⟨Int.emod_nonneg x (by omega), Int.emod_lt_of_pos x (by omega)⟩
        have hB : ∀ p r s, 1 ≤ r → 0 ≤ ρ.fn 9 [p, r, s] := by
          intro p r s hr
          rw [h.std.f rfl]
          exact pbrake_nonneg hr s
        have A1 := axis_ok (P := fun x n => ρ.fn 8 [x, n]) hP (three_ok (P := fun x n => ρ.fn 8 [x, n]) h74 (by decide) (by decide) (by decide) (by decide)) h79 h80 h81 (three_ok (P := fun x n => ρ.fn 8 [x, n]) h84 (by decide) (by decide) (by decide) (by decide)) h85 h88 h120
        have hB2 : ∀ p r s, 1 ≤ r → r ≤ 4000 → s + p ≤ 6000 → 0 ≤ ρ.fn 9 [p, r, s] ∧ ρ.fn 9 [p, r, s] ≤ 36006000 := by
          intro p r s hr hr2 hs
          rw [h.std.f rfl]
          exact ⟨pbrake_nonneg hr s, pbrake_le hr hr2 hs⟩
        have B1 := wide_bd (P := fun x n => ρ.fn 8 [x, n]) hP (B := fun p r s => ρ.fn 9 [p, r, s]) hB2 (three_ok (P := fun x n => ρ.fn 8 [x, n]) h94 (by decide) (by decide) (by decide) (by decide)) A1.2.2.1 A1.2.2.2.1 A1.2.2.2.2.1 A1.2.1 h122 h124 h125 h131 h134 h135 h136
        have h67 := three_ok (P := fun x n => ρ.fn 8 [x, n]) h108 (by decide) (by decide) (by decide) (by decide)
        simp only [Bool.not_eq_true', Bool.or_eq_false_iff, decide_eq_false_iff_not] at c0
        have l6 := h.l6
        have q26 : 0 ≤ ρ.iv 1880815333974135020 ∧ ρ.iv 1880815333974135020 < 65537 := by
          rw [h117]
          have p := hP (ρ.iv 30746504874620558) (if decide (ρ.fn 8 [(ρ.iv 1049086397452380500), 2] = 0) = true then 60 else 65537) (by split <;> omega)
          refine ⟨p.1, Int.lt_of_lt_of_le p.2 ?_⟩
          split <;> omega
        have q23 := hP (ρ.iv 779923173394206433) (ρ.iv 639743564890124627) h67.1
        have q25 := hP (ρ.iv 2067426290030140442) 900 (by decide)
        refine ⟨h.std.sub _, h.l6, h.e5, ⟨by show 1 ≤ ρ.iv 6; omega, by show ρ.iv 6 ≤ 100; omega⟩, B1.1, B1.2.1, hP _ 1001 (by decide), ⟨q23.1, by have := q23.2; show ρ.fn 8 [ρ.iv 779923173394206433, ρ.iv 639743564890124627] < 65537; omega⟩, ⟨Int.le_trans A1.2.2.1 A1.2.2.2.1, A1.2.2.2.2.1⟩, ⟨by show 100 ≤ 100 + ρ.fn 8 [ρ.iv 2067426290030140442, 900]; omega, by show 100 + ρ.fn 8 [ρ.iv 2067426290030140442, 900] ≤ 999; omega⟩, q26, hP _ 300 (by decide), B1.2.2⟩)
    (by
      refine List.forall_mem_cons.2 ⟨?_, fun _ h => nomatch h⟩
      intro ρ h hv hp
      exact ⟨.inr rfl, (fun _ h => nomatch h), [.bool (.bc true)], by kernel_rfl, fun b => rfl⟩)
    h0 ⟨fun _ => 0, fun _ => 0, fun _ => 0⟩ w (noHeap _ _ _ _) ⟨s1, r1, ⟨by show _ ≤ ρ0.iv 5; rw [h0.e5]; exact hz.1, by show ρ0.iv 5 ≤ _; rw [h0.e5]; exact hz.2⟩, trivial⟩ hm
  have e : SV.denL ρ0 ⟨fun _ => 0, fun _ => 0, fun _ => 0⟩ hAArgs = [.slice g.A g.n g.c, .slice d.A d.n d.c, .int .i64 z] := by
    unfold hAArgs
    simp only [SV.denL]
    rw [s2, r2]
    simp only [den_int, E.i, h0.e5]
  rw [e] at key
  exact key
set_option maxRecDepth 100000 in
set_option maxHeartbeats 1000000 in
theorem holdMade_B (g d : GD) (hk : g.ks = [true]) (hk' : d.ks = [true]) (hn : 0 < g.n) (hn' : d.n = 0) (z : Int) (hz : B64 z) (w : World) (o : g.ok w) (o' : d.ok w) :
    Calls Try.prog 21 #[.slice g.A g.n g.c, .slice d.A d.n d.c, .int .i64 z] w fun e w' => e = .returned (.bool true) ∧ Below w.heap.size w w' := by
  obtain ⟨ρ0, h0, hm, s1, s2, r1, r2⟩ := hm_start o o' hk hk' z ⟨fun _ => 0, fun _ => 0, fun _ => 0⟩
  have on := o.n
  have on' := o'.n
  obtain ⟨s1, s2⟩ := osl_pos s1 s2 (by show 1 ≤ ρ0.iv 4; rw [h0.l4]; omega)
  obtain ⟨r1, r2⟩ := osl_zero r1 r2 (by show ρ0.iv 6 = 0; rw [h0.l6]; omega)
  have key := piece_ret (P := Try.prog) (cfg := cfgK hMSum hBKeeps 50 12) Try.func21 rfl (args := hBArgs) (H := []) (nx := 0) hB_ran0 hB_defs0 hB_no0 (V := .bool true) (HmJ g d z)
    (fun ρ h => ⟨h.std.et, hM_sum h.std⟩) (fun ρ ρ' h hs => h.same hs) (by kernel_rfl)
    (fun ρ h => by
      have h1 := h.l4
      have h2 := h.l6
      have h5 := h.e5
      have on := o.n
      have on' := o'.n
      unfold B64 at hz
      refine List.forall_mem_cons.2 ⟨?_, List.forall_mem_cons.2 ⟨?_, List.forall_mem_cons.2 ⟨?_, fun _ h => nomatch h⟩⟩⟩
      · exact fit_of (z := ρ.iv 4) rfl (by show (1 : Int) ≤ ρ.iv 4; omega) (by show ρ.iv 4 ≤ 9223372036854775807; omega)
      · exact fit_const _ _
      · exact fit_of (z := ρ.iv 5) rfl (by show (-9223372036854775808 : Int) ≤ ρ.iv 5; omega) (by show ρ.iv 5 ≤ 9223372036854775807; omega))
    (fun ρ h hv => Eq.mpr (hB_w0 ρ) (by
      obtain ⟨-, -, -, -, -, -, -, h7, -, -, -, -, h12, h13, h14, -, -, h17, h18, -, -, h21, -, -, -, -, -, h27, -, -, -, -, -, -, -, -, -, -, -, -, -, -, -, -, -, -, -, -, -, -, -, -, -, h53, -, h55, -, h57, h58, -, -, -, -, -, h64, -, -, h67, h68, h69, -, -, -, -, h74, -, -, -, -, h79, h80, h81, -, -, h84, h85, -, -, h88, -, -, -, -, -, h94, -, -, -, -, -, -, -, -, -, -, -, -, -, -, -, -, -, -, -, -, -, -, h117, -, -, h120, -, h122, -, h124, h125, -, -, -, -, -, h131, -, -, h134, h135, h136, -, -, -, -, -, -, -, -, -, -, -, -, -, -, -, h152, h153, -, -, -, -, -, -, -, -, -, -, -, -, -⟩ := Eq.mp (hB_says0 ρ) hv
      have hP : ∀ x n, 1 ≤ n → 0 ≤ ρ.fn 8 [x, n] ∧ ρ.fn 8 [x, n] < n := by
        intro x n hn
        rw [h.std.f rfl]
        exact ⟨Int.emod_nonneg x (by omega), Int.emod_lt_of_pos x (by omega)⟩
      have hB : ∀ p r s, 1 ≤ r → 0 ≤ ρ.fn 9 [p, r, s] := by
        intro p r s hr
        rw [h.std.f rfl]
        exact pbrake_nonneg hr s
      have hp4 : 0 < ρ.iv 4 := by have := h.l4; omega
      have A0 := axis_ok (P := fun x n => ρ.fn 8 [x, n]) hP (three_ok (P := fun x n => ρ.fn 8 [x, n]) h7 (by decide) (by decide) (by decide) (by decide)) h12 h13 h14 (three_ok (P := fun x n => ρ.fn 8 [x, n]) h17 (by decide) (by decide) (by decide) (by decide)) h18 h21 h53
      have B0 := wide_ok (P := fun x n => ρ.fn 8 [x, n]) hP (B := fun p r s => ρ.fn 9 [p, r, s]) hB (three_ok (P := fun x n => ρ.fn 8 [x, n]) h27 (by decide) (by decide) (by decide) (by decide)).1 A0.2.2.1 (Int.le_trans A0.2.2.1 A0.2.2.2.1) h55 h57 h58 (two_in (P := fun x n => ρ.fn 8 [x, n]) _ _ (by decide) (by decide)) h64 h67 h68 h69
      have A1 := axis_ok (P := fun x n => ρ.fn 8 [x, n]) hP (three_ok (P := fun x n => ρ.fn 8 [x, n]) h74 (by decide) (by decide) (by decide) (by decide)) h79 h80 h81 (three_ok (P := fun x n => ρ.fn 8 [x, n]) h84 (by decide) (by decide) (by decide) (by decide)) h85 h88 h120
      have B1 := wide_ok (P := fun x n => ρ.fn 8 [x, n]) hP (B := fun p r s => ρ.fn 9 [p, r, s]) hB (three_ok (P := fun x n => ρ.fn 8 [x, n]) h94 (by decide) (by decide) (by decide) (by decide)).1 A1.2.2.1 (Int.le_trans A1.2.2.1 A1.2.2.2.1) h122 h124 h125 (two_in (P := fun x n => ρ.fn 8 [x, n]) _ _ (by decide) (by decide)) h131 h134 h135 h136
      exact ⟨fun _ => decide_eq_true hp4, fun _ => decide_eq_true (Int.emod_lt_of_pos _ hp4), fun _ => decide_eq_true (Int.emod_lt_of_pos _ hp4), fun _ => decide_eq_true (Int.emod_lt_of_pos _ hp4), fun _ => decide_eq_true (Int.emod_lt_of_pos _ hp4), fun _ => decide_eq_true (Int.emod_lt_of_pos _ hp4), fun _ => decide_eq_true (Int.emod_lt_of_pos _ hp4), fun _ => decide_eq_true (Int.emod_lt_of_pos _ hp4), fun _ => decide_eq_true (Int.emod_lt_of_pos _ hp4), fun _ => decide_eq_true A0.1, fun _ => decide_eq_true (Int.emod_lt_of_pos _ hp4), fun _ => decide_eq_true (Int.emod_lt_of_pos _ hp4), fun _ => decide_eq_true (Int.emod_lt_of_pos _ hp4), fun _ => decide_eq_true (Int.emod_lt_of_pos _ hp4), fun _ => decide_eq_true (Int.emod_lt_of_pos _ hp4), fun _ => decide_eq_true (Int.emod_lt_of_pos _ hp4), fun _ => decide_eq_true (Int.emod_lt_of_pos _ hp4), fun _ => decide_eq_true (Int.emod_lt_of_pos _ hp4), fun _ => decide_eq_true (Int.emod_lt_of_pos _ hp4), fun _ => decide_eq_true (Int.emod_lt_of_pos _ hp4), fun _ => decide_eq_true (Int.emod_lt_of_pos _ hp4), fun _ => decide_eq_true (Int.emod_lt_of_pos _ hp4), fun _ => decide_eq_true A0.2.1, fun _ => decide_eq_true A0.2.1, fun _ => decide_eq_true (Int.emod_lt_of_pos _ hp4), fun _ => decide_eq_true (Int.emod_lt_of_pos _ hp4), fun _ => decide_eq_true (Int.emod_lt_of_pos _ hp4), fun _ => decide_eq_true (Int.emod_lt_of_pos _ hp4), fun _ => decide_eq_true (Int.emod_lt_of_pos _ hp4), fun _ => decide_eq_true (Int.emod_lt_of_pos _ hp4), fun _ => decide_eq_true (Int.emod_lt_of_pos _ hp4), fun _ => decide_eq_true (Int.emod_lt_of_pos _ hp4), fun _ => decide_eq_true (Int.emod_lt_of_pos _ hp4), fun _ => decide_eq_true (Int.emod_lt_of_pos _ hp4), fun _ => decide_eq_true A1.1, fun _ => decide_eq_true (Int.emod_lt_of_pos _ hp4), fun _ => decide_eq_true (Int.emod_lt_of_pos _ hp4), fun _ => decide_eq_true (Int.emod_lt_of_pos _ hp4), fun _ => decide_eq_true (Int.emod_lt_of_pos _ hp4), fun _ => decide_eq_true (Int.emod_lt_of_pos _ hp4), fun _ => decide_eq_true (Int.emod_lt_of_pos _ hp4), fun _ => decide_eq_true (Int.emod_lt_of_pos _ hp4), fun _ => decide_eq_true (Int.emod_lt_of_pos _ hp4), fun _ => decide_eq_true (Int.emod_lt_of_pos _ hp4), fun _ => decide_eq_true (Int.emod_lt_of_pos _ hp4), fun _ => decide_eq_true (Int.emod_lt_of_pos _ hp4), fun _ => decide_eq_true (Int.emod_lt_of_pos _ hp4), fun _ => decide_eq_true A1.2.1, fun _ => decide_eq_true A1.2.1, fun _ => decide_eq_true (Int.emod_lt_of_pos _ hp4), fun _ => decide_eq_true (Int.emod_lt_of_pos _ hp4), fun _ => decide_eq_true (Int.emod_lt_of_pos _ hp4), fun _ => decide_eq_true (by have := B1; omega), fun _ => decide_eq_true (by have := hP (ρ.iv 2067426290030140442) 900 (by decide); omega), fun _ => decide_eq_true (by have := hP (ρ.iv 2067426290030140442) 900 (by decide); omega), fun _ => decide_eq_true (near_bd (P := fun x n => ρ.fn 8 [x, n]) hP h117 h152 h153).1, fun _ => decide_eq_true (near_bd (P := fun x n => ρ.fn 8 [x, n]) hP h117 h152 h153).2, trivial⟩))
    (by
      refine List.forall_mem_cons.2 ⟨?_, fun _ h => nomatch h⟩
      · intro ρ h hv hp
        refine ⟨.inr rfl, (fun _ h => nomatch h), [.bool (.bc true)], by kernel_rfl, fun b => ?_⟩
        rfl)
    h0 ⟨fun _ => 0, fun _ => 0, fun _ => 0⟩ w (noHeap _ _ _ _) ⟨s1, r1, ⟨by show _ ≤ ρ0.iv 5; rw [h0.e5]; exact hz.1, by show ρ0.iv 5 ≤ _; rw [h0.e5]; exact hz.2⟩, trivial⟩ hm
  have e : SV.denL ρ0 ⟨fun _ => 0, fun _ => 0, fun _ => 0⟩ hBArgs = [.slice g.A g.n g.c, .slice d.A d.n d.c, .int .i64 z] := by
    unfold hBArgs
    simp only [SV.denL]
    rw [s2, r2]
    simp only [den_int, E.i, h0.e5]
  rw [e] at key
  exact key
set_option maxRecDepth 100000 in
set_option maxHeartbeats 1000000 in
theorem holdMade_C (g d : GD) (hk : g.ks = [true]) (hk' : d.ks = [true]) (hn : g.n = 0) (hn' : 0 < d.n) (z : Int) (hz : B64 z) (w : World) (o : g.ok w) (o' : d.ok w) :
    Calls Try.prog 21 #[.slice g.A g.n g.c, .slice d.A d.n d.c, .int .i64 z] w fun e w' => e = .returned (.bool true) ∧ Below w.heap.size w w' := by
  obtain ⟨ρ0, h0, hm, s1, s2, r1, r2⟩ := hm_start o o' hk hk' z ⟨fun _ => 0, fun _ => 0, fun _ => 0⟩
  have on := o.n
  have on' := o'.n
  obtain ⟨s1, s2⟩ := osl_zero s1 s2 (by show ρ0.iv 4 = 0; rw [h0.l4]; omega)
  obtain ⟨r1, r2⟩ := osl_pos r1 r2 (by show 1 ≤ ρ0.iv 6; rw [h0.l6]; omega)
  have key := piece_ret (P := Try.prog) (cfg := cfgK hMSum hCKeeps 50 12) Try.func21 rfl (args := hCArgs) (H := []) (nx := 0) hC_ran0 hC_defs0 hC_no0 (V := .bool true) (HmJ g d z)
    (fun ρ h => ⟨h.std.et, hM_sum h.std⟩) (fun ρ ρ' h hs => h.same hs) (by kernel_rfl)
    (fun ρ h => by
      have h1 := h.l4
      have h2 := h.l6
      have h5 := h.e5
      have on := o.n
      have on' := o'.n
      unfold B64 at hz
      refine List.forall_mem_cons.2 ⟨?_, List.forall_mem_cons.2 ⟨?_, List.forall_mem_cons.2 ⟨?_, fun _ h => nomatch h⟩⟩⟩
      · exact fit_const _ _
      · exact fit_of (z := ρ.iv 6) rfl (by show (1 : Int) ≤ ρ.iv 6; omega) (by show ρ.iv 6 ≤ 9223372036854775807; omega)
      · exact fit_of (z := ρ.iv 5) rfl (by show (-9223372036854775808 : Int) ≤ ρ.iv 5; omega) (by show ρ.iv 5 ≤ 9223372036854775807; omega))
    (fun ρ h hv => Eq.mpr (hC_w0 ρ) (by
      obtain ⟨h0, h1, h2, h3, h4, h5, h6, -, h8, -, -, -, h12, -, h14, -, h16, h17, -, h19, h20, h21, h22, h23, h24, h25, h26, h27, h28, h29, -, h31, -, -, h34, h35, -, h37, -, h39, h40, -, h42, h43, h44, h45, -, -, -, -, -, -, -, -, -, -, -, -, -, -, -, -, -, -, -, -, -, -, -, -, -, -, -, -, -, -, h76, h77, -, -, -, -, -, -, -, -, -, -, -, -, -⟩ := Eq.mp (hC_says0 ρ) hv
      have hP : ∀ x n, 1 ≤ n → 0 ≤ ρ.fn 8 [x, n] ∧ ρ.fn 8 [x, n] < n := by
        intro x n hn
        rw [h.std.f rfl]
        exact ⟨Int.emod_nonneg x (by omega), Int.emod_lt_of_pos x (by omega)⟩
      have hB : ∀ p r s, 1 ≤ r → 0 ≤ ρ.fn 9 [p, r, s] := by
        intro p r s hr
        rw [h.std.f rfl]
        exact pbrake_nonneg hr s
      have hp6 : 0 < ρ.iv 6 := by have := h.l6; omega
      have A0 := axis_ok (P := fun x n => ρ.fn 8 [x, n]) hP (three_ok (P := fun x n => ρ.fn 8 [x, n]) h0 (by decide) (by decide) (by decide) (by decide)) h1 h2 h3 (three_ok (P := fun x n => ρ.fn 8 [x, n]) h4 (by decide) (by decide) (by decide) (by decide)) h5 h6 h12
      have B0 := wide_ok (P := fun x n => ρ.fn 8 [x, n]) hP (B := fun p r s => ρ.fn 9 [p, r, s]) hB (three_ok (P := fun x n => ρ.fn 8 [x, n]) h8 (by decide) (by decide) (by decide) (by decide)).1 A0.2.2.1 (Int.le_trans A0.2.2.1 A0.2.2.2.1) h14 h16 h17 (two_in (P := fun x n => ρ.fn 8 [x, n]) _ _ (by decide) (by decide)) h19 h20 h21 h22
      have A1 := axis_ok (P := fun x n => ρ.fn 8 [x, n]) hP (three_ok (P := fun x n => ρ.fn 8 [x, n]) h23 (by decide) (by decide) (by decide) (by decide)) h24 h25 h26 (three_ok (P := fun x n => ρ.fn 8 [x, n]) h27 (by decide) (by decide) (by decide) (by decide)) h28 h29 h35
      have B1 := wide_ok (P := fun x n => ρ.fn 8 [x, n]) hP (B := fun p r s => ρ.fn 9 [p, r, s]) hB (three_ok (P := fun x n => ρ.fn 8 [x, n]) h31 (by decide) (by decide) (by decide) (by decide)).1 A1.2.2.1 (Int.le_trans A1.2.2.1 A1.2.2.2.1) h37 h39 h40 (two_in (P := fun x n => ρ.fn 8 [x, n]) _ _ (by decide) (by decide)) h42 h43 h44 h45
      exact ⟨fun _ => decide_eq_true A0.1, fun _ => decide_eq_true A0.2.1, fun _ => decide_eq_true A0.2.1, fun _ => decide_eq_true A1.1, fun _ => decide_eq_true A1.2.1, fun _ => decide_eq_true A1.2.1, fun _ => decide_eq_true hp6, fun _ => decide_eq_true (by have := B1; omega), fun _ => decide_eq_true (Int.emod_lt_of_pos _ hp6), fun _ => decide_eq_true (Int.emod_lt_of_pos _ hp6), fun _ => decide_eq_true (Int.emod_lt_of_pos _ hp6), fun _ => decide_eq_true (Int.emod_lt_of_pos _ hp6), fun _ => decide_eq_true (Int.emod_lt_of_pos _ hp6), fun _ => decide_eq_true (Int.emod_lt_of_pos _ hp6), fun _ => decide_eq_true (Int.emod_lt_of_pos _ hp6), fun _ => decide_eq_true (by have := hP (39 : Int) 900 (by decide); omega), fun _ => decide_eq_true (by have := hP (39 : Int) 900 (by decide); omega), fun _ => decide_eq_true (near_bd (P := fun x n => ρ.fn 8 [x, n]) hP h34 h76 h77).1, fun _ => decide_eq_true (near_bd (P := fun x n => ρ.fn 8 [x, n]) hP h34 h76 h77).2, trivial⟩))
    (by
      refine List.forall_mem_cons.2 ⟨?_, fun _ h => nomatch h⟩
      · intro ρ h hv hp
        refine ⟨.inr rfl, (fun _ h => nomatch h), [.bool (.bc true)], by kernel_rfl, fun b => ?_⟩
        rfl)
    h0 ⟨fun _ => 0, fun _ => 0, fun _ => 0⟩ w (noHeap _ _ _ _) ⟨s1, r1, ⟨by show _ ≤ ρ0.iv 5; rw [h0.e5]; exact hz.1, by show ρ0.iv 5 ≤ _; rw [h0.e5]; exact hz.2⟩, trivial⟩ hm
  have e : SV.denL ρ0 ⟨fun _ => 0, fun _ => 0, fun _ => 0⟩ hCArgs = [.slice g.A g.n g.c, .slice d.A d.n d.c, .int .i64 z] := by
    unfold hCArgs
    simp only [SV.denL]
    rw [s2, r2]
    simp only [den_int, E.i, h0.e5]
  rw [e] at key
  exact key
set_option maxRecDepth 100000 in
set_option maxHeartbeats 1000000 in
theorem holdMade_D (g d : GD) (hk : g.ks = [true]) (hk' : d.ks = [true]) (hn : g.n = 0) (hn' : d.n = 0) (z : Int) (hz : B64 z) (w : World) (o : g.ok w) (o' : d.ok w) :
    Calls Try.prog 21 #[.slice g.A g.n g.c, .slice d.A d.n d.c, .int .i64 z] w fun e w' => e = .returned (.bool true) ∧ Below w.heap.size w w' := by
  obtain ⟨ρ0, h0, hm, s1, s2, r1, r2⟩ := hm_start o o' hk hk' z ⟨fun _ => 0, fun _ => 0, fun _ => 0⟩
  have on := o.n
  have on' := o'.n
  obtain ⟨s1, s2⟩ := osl_zero s1 s2 (by show ρ0.iv 4 = 0; rw [h0.l4]; omega)
  obtain ⟨r1, r2⟩ := osl_zero r1 r2 (by show ρ0.iv 6 = 0; rw [h0.l6]; omega)
  have key := piece_ret (P := Try.prog) (cfg := cfgK hMSum hDKeeps 50 12) Try.func21 rfl (args := hDArgs) (H := []) (nx := 0) hD_ran0 hD_defs0 hD_no0 (V := .bool true) (HmJ g d z)
    (fun ρ h => ⟨h.std.et, hM_sum h.std⟩) (fun ρ ρ' h hs => h.same hs) (by kernel_rfl)
    (fun ρ h => by
      have h1 := h.l4
      have h2 := h.l6
      have h5 := h.e5
      have on := o.n
      have on' := o'.n
      unfold B64 at hz
      refine List.forall_mem_cons.2 ⟨?_, List.forall_mem_cons.2 ⟨?_, List.forall_mem_cons.2 ⟨?_, fun _ h => nomatch h⟩⟩⟩
      · exact fit_const _ _
      · exact fit_const _ _
      · exact fit_of (z := ρ.iv 5) rfl (by show (-9223372036854775808 : Int) ≤ ρ.iv 5; omega) (by show ρ.iv 5 ≤ 9223372036854775807; omega))
    (fun ρ h hv => Eq.mpr (hD_w0 ρ) (by
      obtain ⟨h0, h1, h2, h3, h4, h5, h6, -, h8, -, -, -, h12, -, h14, -, h16, h17, -, h19, h20, h21, h22, h23, h24, h25, h26, h27, h28, h29, -, h31, -, -, h34, h35, -, h37, -, h39, h40, -, h42, h43, h44, h45, -, -, -, -, -, -, -, -, -, -, -, -, -, -, -, h61, h62, -, -, -, -, -, -, -, -, -, -, -, -, -⟩ := Eq.mp (hD_says0 ρ) hv
      have hP : ∀ x n, 1 ≤ n → 0 ≤ ρ.fn 8 [x, n] ∧ ρ.fn 8 [x, n] < n := by
        intro x n hn
        rw [h.std.f rfl]
        exact ⟨Int.emod_nonneg x (by omega), Int.emod_lt_of_pos x (by omega)⟩
      have hB : ∀ p r s, 1 ≤ r → 0 ≤ ρ.fn 9 [p, r, s] := by
        intro p r s hr
        rw [h.std.f rfl]
        exact pbrake_nonneg hr s
      have A0 := axis_ok (P := fun x n => ρ.fn 8 [x, n]) hP (three_ok (P := fun x n => ρ.fn 8 [x, n]) h0 (by decide) (by decide) (by decide) (by decide)) h1 h2 h3 (three_ok (P := fun x n => ρ.fn 8 [x, n]) h4 (by decide) (by decide) (by decide) (by decide)) h5 h6 h12
      have B0 := wide_ok (P := fun x n => ρ.fn 8 [x, n]) hP (B := fun p r s => ρ.fn 9 [p, r, s]) hB (three_ok (P := fun x n => ρ.fn 8 [x, n]) h8 (by decide) (by decide) (by decide) (by decide)).1 A0.2.2.1 (Int.le_trans A0.2.2.1 A0.2.2.2.1) h14 h16 h17 (two_in (P := fun x n => ρ.fn 8 [x, n]) _ _ (by decide) (by decide)) h19 h20 h21 h22
      have A1 := axis_ok (P := fun x n => ρ.fn 8 [x, n]) hP (three_ok (P := fun x n => ρ.fn 8 [x, n]) h23 (by decide) (by decide) (by decide) (by decide)) h24 h25 h26 (three_ok (P := fun x n => ρ.fn 8 [x, n]) h27 (by decide) (by decide) (by decide) (by decide)) h28 h29 h35
      have B1 := wide_ok (P := fun x n => ρ.fn 8 [x, n]) hP (B := fun p r s => ρ.fn 9 [p, r, s]) hB (three_ok (P := fun x n => ρ.fn 8 [x, n]) h31 (by decide) (by decide) (by decide) (by decide)).1 A1.2.2.1 (Int.le_trans A1.2.2.1 A1.2.2.2.1) h37 h39 h40 (two_in (P := fun x n => ρ.fn 8 [x, n]) _ _ (by decide) (by decide)) h42 h43 h44 h45
      exact ⟨fun _ => decide_eq_true A0.1, fun _ => decide_eq_true A0.2.1, fun _ => decide_eq_true A0.2.1, fun _ => decide_eq_true A1.1, fun _ => decide_eq_true A1.2.1, fun _ => decide_eq_true A1.2.1, fun _ => decide_eq_true (by have := B1; omega), fun _ => decide_eq_true (by have := hP (39 : Int) 900 (by decide); omega), fun _ => decide_eq_true (by have := hP (39 : Int) 900 (by decide); omega), fun _ => decide_eq_true (near_bd (P := fun x n => ρ.fn 8 [x, n]) hP h34 h61 h62).1, fun _ => decide_eq_true (near_bd (P := fun x n => ρ.fn 8 [x, n]) hP h34 h61 h62).2, trivial⟩))
    (by
      refine List.forall_mem_cons.2 ⟨?_, fun _ h => nomatch h⟩
      · intro ρ h hv hp
        refine ⟨.inr rfl, (fun _ h => nomatch h), [.bool (.bc true)], by kernel_rfl, fun b => ?_⟩
        rfl)
    h0 ⟨fun _ => 0, fun _ => 0, fun _ => 0⟩ w (noHeap _ _ _ _) ⟨s1, r1, ⟨by show _ ≤ ρ0.iv 5; rw [h0.e5]; exact hz.1, by show ρ0.iv 5 ≤ _; rw [h0.e5]; exact hz.2⟩, trivial⟩ hm
  have e : SV.denL ρ0 ⟨fun _ => 0, fun _ => 0, fun _ => 0⟩ hDArgs = [.slice g.A g.n g.c, .slice d.A d.n d.c, .int .i64 z] := by
    unfold hDArgs
    simp only [SV.denL]
    rw [s2, r2]
    simp only [den_int, E.i, h0.e5]
  rw [e] at key
  exact key
end Go.Proofs.Ytdfpenjhpemokaa.Sx
namespace Go.Proofs.Ytdfpenjhpemokaa
open Go.ChangeShapes Go.WideShapes Go.ChangeAt Go.Deep Go.RowKit in
set_option maxRecDepth 100000 in
theorem walkHoldMade {H : Type} (W : World) (base : Nat) (enc : TypeId × Value → H) (v0 v1 v2 : Value) {d0 d1 d2 : DataW H} {p0 p1 p2 : List MemPlace}
    (k0 : Value.okWide Try.prog W .any base 78 v0) (k1 : Value.okWide Try.prog W .any base 78 v1) (k2 : Value.okWide Try.prog W .any base 3 v2)
    (h0 : DataW.Trod enc Try.prog W 0 (fun _ => true) true 78 v0 d0 p0) (h1 : DataW.Trod enc Try.prog W 0 (fun _ => true) true 78 v1 d1 p1) (_ : DataW.Trod enc Try.prog W 0 (fun _ => true) true 3 v2 d2 p2) :
    Calls Try.prog 21 #[v0, v1, v2] W fun e W' => e = .returned (.bool true) ∧ Below W.heap.size W W' := by
  obtain ⟨g, hk, rfl, o⟩ := Sx.given_flat [true] (by decide) Try.underlying78 (by kernel_rfl) (by kernel_rfl) k0 h0
  obtain ⟨d, hk', rfl, o'⟩ := Sx.given_flat [true] (by decide) Try.underlying78 (by kernel_rfl) (by kernel_rfl) k1 h1
  obtain ⟨z, rfl, ez⟩ := okWide_int Try.underlying3 k2
  rcases Nat.eq_zero_or_pos g.n with hn | hn <;> rcases Nat.eq_zero_or_pos d.n with hn' | hn'
  · exact Sx.holdMade_D g d hk hk' hn hn' z ez W o o'
  · exact Sx.holdMade_C g d hk hk' hn hn' z ez W o o'
  · exact Sx.holdMade_B g d hk hk' hn hn' z ez W o o'
  · exact Sx.holdMade_A g d hk hk' hn hn' z ez W o o'
end Go.Proofs.Ytdfpenjhpemokaa
