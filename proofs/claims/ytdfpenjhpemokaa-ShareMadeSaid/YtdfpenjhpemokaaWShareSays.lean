/-
  The law ShareSays walked.
-/
import Derived.Test.YtdfpenjhpemokaaShareSaysRun
import Derived.Test.YtdfpenjhpemokaaRow
import Derived.Test.YtdfpenjhpemokaaFrame
import Derived.Test.YtdfpenjhpemokaaOpen2
set_option linter.unusedVariables false
set_option linter.unusedSimpArgs false
namespace Go.Proofs.Ytdfpenjhpemokaa.Sx
open Go.RowKit
theorem sW0Args_ok (g : GD) (hk : g.ks = [true, true, false]) (t r s c x : Int) (bt : B64 t) (br : B64 r) (bs : B64 s) (bc : B64 c) (bx : B64 x) (w : World) (o : g.ok w) (q1 : (0 : Int) ≤ g.n) (q2 : (g.n : Int) ≤ 0) {ρ : Env} (h : Jm shF noB (fun _ => g) (shM g t r s c x) (fun _ => false) ρ) :
    SV.okL ρ (· < 0) sW0Args ∧ Mem ρ (· < w.heap.size) w ∧ SV.denL ρ ⟨fun _ => 0, fun _ => 0, fun _ => 0⟩ sW0Args = [.agg #[.int .i64 t, .int .i64 r, .int .i64 s, .int .i64 c], .slice g.A g.n g.c, .int .i64 x] := by
  have hG : ∀ k : Nat, ((fun _ => g) k).ok w := fun _ => o
  have b := h.shb
  obtain ⟨s0, t0⟩ := h.std.osl hG (k := 0) (sh := [.int .i64 (-9223372036854775808) 9223372036854775807, .int .i64 (-9223372036854775808) 9223372036854775807, .bool]) (by show g.ks.map ckOf = _; rw [hk]; rfl) (by show g.ks.length ≤ 100; rw [hk]; decide) (e := .c 0) (lo := 0) (hi := 0) (by show (0 : Int) = g.n; omega) (by decide) q1 q2 (· < 0) ⟨fun _ => 0, fun _ => 0, fun _ => 0⟩
  refine ⟨?_, h.mem hG, ?_⟩
  · unfold sW0Args
    simp only [SV.okL, SV.ok, R.ok, E.i, b.e20, b.e21, b.e22, b.e23, b.e24]
    exact ⟨⟨bt, br, bs, bc, trivial⟩, s0, bx, trivial⟩
  · unfold sW0Args
    simp only [SV.denL, den_agg, den_int, E.i, b.e20, b.e21, b.e22, b.e23, b.e24, t0]
set_option maxRecDepth 100000 in
theorem share_sW0 (g : GD) (hk : g.ks = [true, true, false]) (t r s c x : Int) (bt : B64 t) (br : B64 r) (bs : B64 s) (bc : B64 c) (bx : B64 x) (w : World) (o : g.ok w) (q1 : (0 : Int) ≤ g.n) (q2 : (g.n : Int) ≤ 0) :
    Calls Try.prog 15 #[.agg #[.int .i64 t, .int .i64 r, .int .i64 s, .int .i64 c], .slice g.A g.n g.c, .int .i64 x] w fun e w' => e = .returned (.bool true) ∧ Below w.heap.size w w' := by
  obtain ⟨ρ0, h0⟩ := Jm.start shF noB (fun _ => g) (shM g t r s c x) (fun _ => false)
  exact law_true sW0_ran sW0_defs sW0_no (Jm shF noB (fun _ => g) (shM g t r s c x) (fun _ => false)) (fun ρ h => ⟨h.std.et, sLE_sum h.std o hk⟩) (fun ρ ρ' h hs => h.same hs) (fun ρ h hv => Eq.mpr (sW0_w ρ) trivial) (fun ρ h hv => sW0_e ρ) (fun ρ h => sW0Args_ok g hk t r s c x bt br bs bc bx w o q1 q2 h) h0
theorem sW1Args_ok (g : GD) (hk : g.ks = [true, true, false]) (t r s c x : Int) (bt : B64 t) (br : B64 r) (bs : B64 s) (bc : B64 c) (bx : B64 x) (w : World) (o : g.ok w) (q1 : (1 : Int) ≤ g.n) (q2 : (g.n : Int) ≤ 1) {ρ : Env} (h : Jm shF noB (fun _ => g) (shM g t r s c x) (fun _ => false) ρ) :
    SV.okL ρ (· < 0) sW1Args ∧ Mem ρ (· < w.heap.size) w ∧ SV.denL ρ ⟨fun _ => 0, fun _ => 0, fun _ => 0⟩ sW1Args = [.agg #[.int .i64 t, .int .i64 r, .int .i64 s, .int .i64 c], .slice g.A g.n g.c, .int .i64 x] := by
  have hG : ∀ k : Nat, ((fun _ => g) k).ok w := fun _ => o
  have b := h.shb
  obtain ⟨s0, t0⟩ := h.std.osl hG (k := 0) (sh := [.int .i64 (-9223372036854775808) 9223372036854775807, .int .i64 (-9223372036854775808) 9223372036854775807, .bool]) (by show g.ks.map ckOf = _; rw [hk]; rfl) (by show g.ks.length ≤ 100; rw [hk]; decide) (e := .c 1) (lo := 1) (hi := 1) (by show (1 : Int) = g.n; omega) (by decide) q1 q2 (· < 0) ⟨fun _ => 0, fun _ => 0, fun _ => 0⟩
  refine ⟨?_, h.mem hG, ?_⟩
  · unfold sW1Args
    simp only [SV.okL, SV.ok, R.ok, E.i, b.e20, b.e21, b.e22, b.e23, b.e24]
    exact ⟨⟨bt, br, bs, bc, trivial⟩, s0, bx, trivial⟩
  · unfold sW1Args
    simp only [SV.denL, den_agg, den_int, E.i, b.e20, b.e21, b.e22, b.e23, b.e24, t0]
set_option maxRecDepth 100000 in
theorem share_sW1 (g : GD) (hk : g.ks = [true, true, false]) (t r s c x : Int) (bt : B64 t) (br : B64 r) (bs : B64 s) (bc : B64 c) (bx : B64 x) (w : World) (o : g.ok w) (q1 : (1 : Int) ≤ g.n) (q2 : (g.n : Int) ≤ 1) :
    Calls Try.prog 15 #[.agg #[.int .i64 t, .int .i64 r, .int .i64 s, .int .i64 c], .slice g.A g.n g.c, .int .i64 x] w fun e w' => e = .returned (.bool true) ∧ Below w.heap.size w w' := by
  obtain ⟨ρ0, h0⟩ := Jm.start shF noB (fun _ => g) (shM g t r s c x) (fun _ => false)
  exact law_true sW1_ran sW1_defs sW1_no (Jm shF noB (fun _ => g) (shM g t r s c x) (fun _ => false)) (fun ρ h => ⟨h.std.et, sL_sum h.std o hk⟩) (fun ρ ρ' h hs => h.same hs) (fun ρ h hv => Eq.mpr (sW1_w ρ) (by
      obtain ⟨k0, -⟩ := Eq.mp (sW1_says ρ) hv
      have h4 : ρ.iv 4 = g.n := h.shb.l4
      (repeat' (first | exact trivial | refine And.intro ?_ ?_))
      all_goals first  | (rintro ⟨q, _⟩; rw [k0] at q; exact q))) (fun ρ h hv => by
      obtain ⟨k0, -, -, -, k4, -, k6, -⟩ := Eq.mp (sW1_says ρ) hv
      rw [sW1_e ρ, k0, k4, k6]
      by_cases hz : ρ.fn 87 [0, ρ.iv 20, ρ.iv 21, ρ.iv 22, ρ.iv 23] = 0
      · rw [if_pos (decide_eq_true hz)]
        simp only [decide_eq_true hz, Bool.or_true]
      · rw [if_neg (by rw [decide_eq_false hz]; decide)]
        simp only [decide_eq_false hz, Bool.not_false, Bool.or_true]) (fun ρ h => sW1Args_ok g hk t r s c x bt br bs bc bx w o q1 q2 h) h0
theorem sW2Args_ok (g : GD) (hk : g.ks = [true, true, false]) (t r s c x : Int) (bt : B64 t) (br : B64 r) (bs : B64 s) (bc : B64 c) (bx : B64 x) (w : World) (o : g.ok w) (q1 : (2 : Int) ≤ g.n) (q2 : (g.n : Int) ≤ 2) {ρ : Env} (h : Jm shF noB (fun _ => g) (shM g t r s c x) (fun _ => false) ρ) :
    SV.okL ρ (· < 0) sW2Args ∧ Mem ρ (· < w.heap.size) w ∧ SV.denL ρ ⟨fun _ => 0, fun _ => 0, fun _ => 0⟩ sW2Args = [.agg #[.int .i64 t, .int .i64 r, .int .i64 s, .int .i64 c], .slice g.A g.n g.c, .int .i64 x] := by
  have hG : ∀ k : Nat, ((fun _ => g) k).ok w := fun _ => o
  have b := h.shb
  obtain ⟨s0, t0⟩ := h.std.osl hG (k := 0) (sh := [.int .i64 (-9223372036854775808) 9223372036854775807, .int .i64 (-9223372036854775808) 9223372036854775807, .bool]) (by show g.ks.map ckOf = _; rw [hk]; rfl) (by show g.ks.length ≤ 100; rw [hk]; decide) (e := .c 2) (lo := 2) (hi := 2) (by show (2 : Int) = g.n; omega) (by decide) q1 q2 (· < 0) ⟨fun _ => 0, fun _ => 0, fun _ => 0⟩
  refine ⟨?_, h.mem hG, ?_⟩
  · unfold sW2Args
    simp only [SV.okL, SV.ok, R.ok, E.i, b.e20, b.e21, b.e22, b.e23, b.e24]
    exact ⟨⟨bt, br, bs, bc, trivial⟩, s0, bx, trivial⟩
  · unfold sW2Args
    simp only [SV.denL, den_agg, den_int, E.i, b.e20, b.e21, b.e22, b.e23, b.e24, t0]
set_option maxRecDepth 100000 in
theorem share_sW2 (g : GD) (hk : g.ks = [true, true, false]) (t r s c x : Int) (bt : B64 t) (br : B64 r) (bs : B64 s) (bc : B64 c) (bx : B64 x) (w : World) (o : g.ok w) (q1 : (2 : Int) ≤ g.n) (q2 : (g.n : Int) ≤ 2) :
    Calls Try.prog 15 #[.agg #[.int .i64 t, .int .i64 r, .int .i64 s, .int .i64 c], .slice g.A g.n g.c, .int .i64 x] w fun e w' => e = .returned (.bool true) ∧ Below w.heap.size w w' := by
  obtain ⟨ρ0, h0⟩ := Jm.start shF noB (fun _ => g) (shM g t r s c x) (fun _ => false)
  exact law_true sW2_ran sW2_defs sW2_no (Jm shF noB (fun _ => g) (shM g t r s c x) (fun _ => false)) (fun ρ h => ⟨h.std.et, sL_sum h.std o hk⟩) (fun ρ ρ' h hs => h.same hs) (fun ρ h hv => Eq.mpr (sW2_w ρ) (by
      obtain ⟨k0, -⟩ := Eq.mp (sW2_says ρ) hv
      have h4 : ρ.iv 4 = g.n := h.shb.l4
      (repeat' (first | exact trivial | refine And.intro ?_ ?_))
      all_goals first  | (rintro ⟨q, _⟩; rw [k0] at q; exact q))) (fun ρ h hv => by
      obtain ⟨k0, -, -, -, -, -, k6, -, -, k9, -⟩ := Eq.mp (sW2_says ρ) hv
      rw [sW2_e ρ, k0, k6, k9]
      by_cases hz : ρ.fn 87 [0, ρ.iv 20, ρ.iv 21, ρ.iv 22, ρ.iv 23] = 0
      · rw [if_pos (decide_eq_true hz)]
        simp only [decide_eq_true hz, Bool.or_true]
      · rw [if_neg (by rw [decide_eq_false hz]; decide)]
        simp only [decide_eq_false hz, Bool.not_false, Bool.or_true]) (fun ρ h => sW2Args_ok g hk t r s c x bt br bs bc bx w o q1 q2 h) h0
theorem sW3Args_ok (g : GD) (hk : g.ks = [true, true, false]) (t r s c x : Int) (bt : B64 t) (br : B64 r) (bs : B64 s) (bc : B64 c) (bx : B64 x) (w : World) (o : g.ok w) (q1 : (3 : Int) ≤ g.n) (q2 : (g.n : Int) ≤ 3) {ρ : Env} (h : Jm shF noB (fun _ => g) (shM g t r s c x) (fun _ => false) ρ) :
    SV.okL ρ (· < 0) sW3Args ∧ Mem ρ (· < w.heap.size) w ∧ SV.denL ρ ⟨fun _ => 0, fun _ => 0, fun _ => 0⟩ sW3Args = [.agg #[.int .i64 t, .int .i64 r, .int .i64 s, .int .i64 c], .slice g.A g.n g.c, .int .i64 x] := by
  have hG : ∀ k : Nat, ((fun _ => g) k).ok w := fun _ => o
  have b := h.shb
  obtain ⟨s0, t0⟩ := h.std.osl hG (k := 0) (sh := [.int .i64 (-9223372036854775808) 9223372036854775807, .int .i64 (-9223372036854775808) 9223372036854775807, .bool]) (by show g.ks.map ckOf = _; rw [hk]; rfl) (by show g.ks.length ≤ 100; rw [hk]; decide) (e := .c 3) (lo := 3) (hi := 3) (by show (3 : Int) = g.n; omega) (by decide) q1 q2 (· < 0) ⟨fun _ => 0, fun _ => 0, fun _ => 0⟩
  refine ⟨?_, h.mem hG, ?_⟩
  · unfold sW3Args
    simp only [SV.okL, SV.ok, R.ok, E.i, b.e20, b.e21, b.e22, b.e23, b.e24]
    exact ⟨⟨bt, br, bs, bc, trivial⟩, s0, bx, trivial⟩
  · unfold sW3Args
    simp only [SV.denL, den_agg, den_int, E.i, b.e20, b.e21, b.e22, b.e23, b.e24, t0]
set_option maxRecDepth 100000 in
theorem share_sW3 (g : GD) (hk : g.ks = [true, true, false]) (t r s c x : Int) (bt : B64 t) (br : B64 r) (bs : B64 s) (bc : B64 c) (bx : B64 x) (w : World) (o : g.ok w) (q1 : (3 : Int) ≤ g.n) (q2 : (g.n : Int) ≤ 3) :
    Calls Try.prog 15 #[.agg #[.int .i64 t, .int .i64 r, .int .i64 s, .int .i64 c], .slice g.A g.n g.c, .int .i64 x] w fun e w' => e = .returned (.bool true) ∧ Below w.heap.size w w' := by
  obtain ⟨ρ0, h0⟩ := Jm.start shF noB (fun _ => g) (shM g t r s c x) (fun _ => false)
  exact law_true sW3_ran sW3_defs sW3_no (Jm shF noB (fun _ => g) (shM g t r s c x) (fun _ => false)) (fun ρ h => ⟨h.std.et, sL_sum h.std o hk⟩) (fun ρ ρ' h hs => h.same hs) (fun ρ h hv => Eq.mpr (sW3_w ρ) (by
      obtain ⟨k0, -⟩ := Eq.mp (sW3_says ρ) hv
      have h4 : ρ.iv 4 = g.n := h.shb.l4
      (repeat' (first | exact trivial | refine And.intro ?_ ?_))
      all_goals first  | (rintro ⟨q, _⟩; rw [k0] at q; exact q))) (fun ρ h hv => by
      obtain ⟨k0, -, -, -, -, -, -, -, -, k9, -, -, -, k13, -⟩ := Eq.mp (sW3_says ρ) hv
      rw [sW3_e ρ, k0, k9, k13]
      by_cases hz : ρ.fn 87 [0, ρ.iv 20, ρ.iv 21, ρ.iv 22, ρ.iv 23] = 0
      · rw [if_pos (decide_eq_true hz)]
        simp only [decide_eq_true hz, Bool.or_true]
      · rw [if_neg (by rw [decide_eq_false hz]; decide)]
        simp only [decide_eq_false hz, Bool.not_false, Bool.or_true]) (fun ρ h => sW3Args_ok g hk t r s c x bt br bs bc bx w o q1 q2 h) h0
theorem sW4Args_ok (g : GD) (hk : g.ks = [true, true, false]) (t r s c x : Int) (bt : B64 t) (br : B64 r) (bs : B64 s) (bc : B64 c) (bx : B64 x) (w : World) (o : g.ok w) (q1 : (4 : Int) ≤ g.n) (q2 : (g.n : Int) ≤ 4) {ρ : Env} (h : Jm shF noB (fun _ => g) (shM g t r s c x) (fun _ => false) ρ) :
    SV.okL ρ (· < 0) sW4Args ∧ Mem ρ (· < w.heap.size) w ∧ SV.denL ρ ⟨fun _ => 0, fun _ => 0, fun _ => 0⟩ sW4Args = [.agg #[.int .i64 t, .int .i64 r, .int .i64 s, .int .i64 c], .slice g.A g.n g.c, .int .i64 x] := by
  have hG : ∀ k : Nat, ((fun _ => g) k).ok w := fun _ => o
  have b := h.shb
  obtain ⟨s0, t0⟩ := h.std.osl hG (k := 0) (sh := [.int .i64 (-9223372036854775808) 9223372036854775807, .int .i64 (-9223372036854775808) 9223372036854775807, .bool]) (by show g.ks.map ckOf = _; rw [hk]; rfl) (by show g.ks.length ≤ 100; rw [hk]; decide) (e := .c 4) (lo := 4) (hi := 4) (by show (4 : Int) = g.n; omega) (by decide) q1 q2 (· < 0) ⟨fun _ => 0, fun _ => 0, fun _ => 0⟩
  refine ⟨?_, h.mem hG, ?_⟩
  · unfold sW4Args
    simp only [SV.okL, SV.ok, R.ok, E.i, b.e20, b.e21, b.e22, b.e23, b.e24]
    exact ⟨⟨bt, br, bs, bc, trivial⟩, s0, bx, trivial⟩
  · unfold sW4Args
    simp only [SV.denL, den_agg, den_int, E.i, b.e20, b.e21, b.e22, b.e23, b.e24, t0]
set_option maxRecDepth 100000 in
theorem share_sW4 (g : GD) (hk : g.ks = [true, true, false]) (t r s c x : Int) (bt : B64 t) (br : B64 r) (bs : B64 s) (bc : B64 c) (bx : B64 x) (w : World) (o : g.ok w) (q1 : (4 : Int) ≤ g.n) (q2 : (g.n : Int) ≤ 4) :
    Calls Try.prog 15 #[.agg #[.int .i64 t, .int .i64 r, .int .i64 s, .int .i64 c], .slice g.A g.n g.c, .int .i64 x] w fun e w' => e = .returned (.bool true) ∧ Below w.heap.size w w' := by
  obtain ⟨ρ0, h0⟩ := Jm.start shF noB (fun _ => g) (shM g t r s c x) (fun _ => false)
  exact law_true sW4_ran sW4_defs sW4_no (Jm shF noB (fun _ => g) (shM g t r s c x) (fun _ => false)) (fun ρ h => ⟨h.std.et, sL_sum h.std o hk⟩) (fun ρ ρ' h hs => h.same hs) (fun ρ h hv => Eq.mpr (sW4_w ρ) (by
      obtain ⟨k0, -⟩ := Eq.mp (sW4_says ρ) hv
      have h4 : ρ.iv 4 = g.n := h.shb.l4
      (repeat' (first | exact trivial | refine And.intro ?_ ?_))
      all_goals first  | (rintro ⟨q, _⟩; rw [k0] at q; exact q))) (fun ρ h hv => by
      obtain ⟨k0, -, -, -, -, -, -, -, -, -, -, k11, -, -, -, -, k16, -⟩ := Eq.mp (sW4_says ρ) hv
      rw [sW4_e ρ, k0, k11, k16]
      by_cases hz : ρ.fn 87 [0, ρ.iv 20, ρ.iv 21, ρ.iv 22, ρ.iv 23] = 0
      · rw [if_pos (decide_eq_true hz)]
        simp only [decide_eq_true hz, Bool.or_true]
      · rw [if_neg (by rw [decide_eq_false hz]; decide)]
        simp only [decide_eq_false hz, Bool.not_false, Bool.or_true]) (fun ρ h => sW4Args_ok g hk t r s c x bt br bs bc bx w o q1 q2 h) h0
theorem sW5Args_ok (g : GD) (hk : g.ks = [true, true, false]) (t r s c x : Int) (bt : B64 t) (br : B64 r) (bs : B64 s) (bc : B64 c) (bx : B64 x) (w : World) (o : g.ok w) (q1 : (5 : Int) ≤ g.n) (q2 : (g.n : Int) ≤ 5) {ρ : Env} (h : Jm shF noB (fun _ => g) (shM g t r s c x) (fun _ => false) ρ) :
    SV.okL ρ (· < 0) sW5Args ∧ Mem ρ (· < w.heap.size) w ∧ SV.denL ρ ⟨fun _ => 0, fun _ => 0, fun _ => 0⟩ sW5Args = [.agg #[.int .i64 t, .int .i64 r, .int .i64 s, .int .i64 c], .slice g.A g.n g.c, .int .i64 x] := by
  have hG : ∀ k : Nat, ((fun _ => g) k).ok w := fun _ => o
  have b := h.shb
  obtain ⟨s0, t0⟩ := h.std.osl hG (k := 0) (sh := [.int .i64 (-9223372036854775808) 9223372036854775807, .int .i64 (-9223372036854775808) 9223372036854775807, .bool]) (by show g.ks.map ckOf = _; rw [hk]; rfl) (by show g.ks.length ≤ 100; rw [hk]; decide) (e := .c 5) (lo := 5) (hi := 5) (by show (5 : Int) = g.n; omega) (by decide) q1 q2 (· < 0) ⟨fun _ => 0, fun _ => 0, fun _ => 0⟩
  refine ⟨?_, h.mem hG, ?_⟩
  · unfold sW5Args
    simp only [SV.okL, SV.ok, R.ok, E.i, b.e20, b.e21, b.e22, b.e23, b.e24]
    exact ⟨⟨bt, br, bs, bc, trivial⟩, s0, bx, trivial⟩
  · unfold sW5Args
    simp only [SV.denL, den_agg, den_int, E.i, b.e20, b.e21, b.e22, b.e23, b.e24, t0]
set_option maxRecDepth 100000 in
theorem share_sW5 (g : GD) (hk : g.ks = [true, true, false]) (t r s c x : Int) (bt : B64 t) (br : B64 r) (bs : B64 s) (bc : B64 c) (bx : B64 x) (w : World) (o : g.ok w) (q1 : (5 : Int) ≤ g.n) (q2 : (g.n : Int) ≤ 5) :
    Calls Try.prog 15 #[.agg #[.int .i64 t, .int .i64 r, .int .i64 s, .int .i64 c], .slice g.A g.n g.c, .int .i64 x] w fun e w' => e = .returned (.bool true) ∧ Below w.heap.size w w' := by
  obtain ⟨ρ0, h0⟩ := Jm.start shF noB (fun _ => g) (shM g t r s c x) (fun _ => false)
  exact law_true sW5_ran sW5_defs sW5_no (Jm shF noB (fun _ => g) (shM g t r s c x) (fun _ => false)) (fun ρ h => ⟨h.std.et, sLE_sum h.std o hk⟩) (fun ρ ρ' h hs => h.same hs) (fun ρ h hv => Eq.mpr (sW5_w ρ) trivial) (fun ρ h hv => sW5_e ρ) (fun ρ h => sW5Args_ok g hk t r s c x bt br bs bc bx w o q1 q2 h) h0
theorem sW6Args_ok (g : GD) (hk : g.ks = [true, true, false]) (t r s c x : Int) (bt : B64 t) (br : B64 r) (bs : B64 s) (bc : B64 c) (bx : B64 x) (w : World) (o : g.ok w) (q1 : (6 : Int) ≤ g.n) (q2 : (g.n : Int) ≤ 6) {ρ : Env} (h : Jm shF noB (fun _ => g) (shM g t r s c x) (fun _ => false) ρ) :
    SV.okL ρ (· < 0) sW6Args ∧ Mem ρ (· < w.heap.size) w ∧ SV.denL ρ ⟨fun _ => 0, fun _ => 0, fun _ => 0⟩ sW6Args = [.agg #[.int .i64 t, .int .i64 r, .int .i64 s, .int .i64 c], .slice g.A g.n g.c, .int .i64 x] := by
  have hG : ∀ k : Nat, ((fun _ => g) k).ok w := fun _ => o
  have b := h.shb
  obtain ⟨s0, t0⟩ := h.std.osl hG (k := 0) (sh := [.int .i64 (-9223372036854775808) 9223372036854775807, .int .i64 (-9223372036854775808) 9223372036854775807, .bool]) (by show g.ks.map ckOf = _; rw [hk]; rfl) (by show g.ks.length ≤ 100; rw [hk]; decide) (e := .c 6) (lo := 6) (hi := 6) (by show (6 : Int) = g.n; omega) (by decide) q1 q2 (· < 0) ⟨fun _ => 0, fun _ => 0, fun _ => 0⟩
  refine ⟨?_, h.mem hG, ?_⟩
  · unfold sW6Args
    simp only [SV.okL, SV.ok, R.ok, E.i, b.e20, b.e21, b.e22, b.e23, b.e24]
    exact ⟨⟨bt, br, bs, bc, trivial⟩, s0, bx, trivial⟩
  · unfold sW6Args
    simp only [SV.denL, den_agg, den_int, E.i, b.e20, b.e21, b.e22, b.e23, b.e24, t0]
set_option maxRecDepth 100000 in
theorem share_sW6 (g : GD) (hk : g.ks = [true, true, false]) (t r s c x : Int) (bt : B64 t) (br : B64 r) (bs : B64 s) (bc : B64 c) (bx : B64 x) (w : World) (o : g.ok w) (q1 : (6 : Int) ≤ g.n) (q2 : (g.n : Int) ≤ 6) :
    Calls Try.prog 15 #[.agg #[.int .i64 t, .int .i64 r, .int .i64 s, .int .i64 c], .slice g.A g.n g.c, .int .i64 x] w fun e w' => e = .returned (.bool true) ∧ Below w.heap.size w w' := by
  obtain ⟨ρ0, h0⟩ := Jm.start shF noB (fun _ => g) (shM g t r s c x) (fun _ => false)
  exact law_true sW6_ran sW6_defs sW6_no (Jm shF noB (fun _ => g) (shM g t r s c x) (fun _ => false)) (fun ρ h => ⟨h.std.et, sLE_sum h.std o hk⟩) (fun ρ ρ' h hs => h.same hs) (fun ρ h hv => Eq.mpr (sW6_w ρ) trivial) (fun ρ h hv => sW6_e ρ) (fun ρ h => sW6Args_ok g hk t r s c x bt br bs bc bx w o q1 q2 h) h0
theorem sW7Args_ok (g : GD) (hk : g.ks = [true, true, false]) (t r s c x : Int) (bt : B64 t) (br : B64 r) (bs : B64 s) (bc : B64 c) (bx : B64 x) (w : World) (o : g.ok w) (q1 : (7 : Int) ≤ g.n) (q2 : (g.n : Int) ≤ 7) {ρ : Env} (h : Jm shF noB (fun _ => g) (shM g t r s c x) (fun _ => false) ρ) :
    SV.okL ρ (· < 0) sW7Args ∧ Mem ρ (· < w.heap.size) w ∧ SV.denL ρ ⟨fun _ => 0, fun _ => 0, fun _ => 0⟩ sW7Args = [.agg #[.int .i64 t, .int .i64 r, .int .i64 s, .int .i64 c], .slice g.A g.n g.c, .int .i64 x] := by
  have hG : ∀ k : Nat, ((fun _ => g) k).ok w := fun _ => o
  have b := h.shb
  obtain ⟨s0, t0⟩ := h.std.osl hG (k := 0) (sh := [.int .i64 (-9223372036854775808) 9223372036854775807, .int .i64 (-9223372036854775808) 9223372036854775807, .bool]) (by show g.ks.map ckOf = _; rw [hk]; rfl) (by show g.ks.length ≤ 100; rw [hk]; decide) (e := .c 7) (lo := 7) (hi := 7) (by show (7 : Int) = g.n; omega) (by decide) q1 q2 (· < 0) ⟨fun _ => 0, fun _ => 0, fun _ => 0⟩
  refine ⟨?_, h.mem hG, ?_⟩
  · unfold sW7Args
    simp only [SV.okL, SV.ok, R.ok, E.i, b.e20, b.e21, b.e22, b.e23, b.e24]
    exact ⟨⟨bt, br, bs, bc, trivial⟩, s0, bx, trivial⟩
  · unfold sW7Args
    simp only [SV.denL, den_agg, den_int, E.i, b.e20, b.e21, b.e22, b.e23, b.e24, t0]
set_option maxRecDepth 100000 in
theorem share_sW7 (g : GD) (hk : g.ks = [true, true, false]) (t r s c x : Int) (bt : B64 t) (br : B64 r) (bs : B64 s) (bc : B64 c) (bx : B64 x) (w : World) (o : g.ok w) (q1 : (7 : Int) ≤ g.n) (q2 : (g.n : Int) ≤ 7) :
    Calls Try.prog 15 #[.agg #[.int .i64 t, .int .i64 r, .int .i64 s, .int .i64 c], .slice g.A g.n g.c, .int .i64 x] w fun e w' => e = .returned (.bool true) ∧ Below w.heap.size w w' := by
  obtain ⟨ρ0, h0⟩ := Jm.start shF noB (fun _ => g) (shM g t r s c x) (fun _ => false)
  exact law_true sW7_ran sW7_defs sW7_no (Jm shF noB (fun _ => g) (shM g t r s c x) (fun _ => false)) (fun ρ h => ⟨h.std.et, sLE_sum h.std o hk⟩) (fun ρ ρ' h hs => h.same hs) (fun ρ h hv => Eq.mpr (sW7_w ρ) trivial) (fun ρ h hv => sW7_e ρ) (fun ρ h => sW7Args_ok g hk t r s c x bt br bs bc bx w o q1 q2 h) h0
theorem sW8Args_ok (g : GD) (hk : g.ks = [true, true, false]) (t r s c x : Int) (bt : B64 t) (br : B64 r) (bs : B64 s) (bc : B64 c) (bx : B64 x) (w : World) (o : g.ok w) (q1 : (8 : Int) ≤ g.n) (q2 : (g.n : Int) ≤ 8) {ρ : Env} (h : Jm shF noB (fun _ => g) (shM g t r s c x) (fun _ => false) ρ) :
    SV.okL ρ (· < 0) sW8Args ∧ Mem ρ (· < w.heap.size) w ∧ SV.denL ρ ⟨fun _ => 0, fun _ => 0, fun _ => 0⟩ sW8Args = [.agg #[.int .i64 t, .int .i64 r, .int .i64 s, .int .i64 c], .slice g.A g.n g.c, .int .i64 x] := by
  have hG : ∀ k : Nat, ((fun _ => g) k).ok w := fun _ => o
  have b := h.shb
  obtain ⟨s0, t0⟩ := h.std.osl hG (k := 0) (sh := [.int .i64 (-9223372036854775808) 9223372036854775807, .int .i64 (-9223372036854775808) 9223372036854775807, .bool]) (by show g.ks.map ckOf = _; rw [hk]; rfl) (by show g.ks.length ≤ 100; rw [hk]; decide) (e := .c 8) (lo := 8) (hi := 8) (by show (8 : Int) = g.n; omega) (by decide) q1 q2 (· < 0) ⟨fun _ => 0, fun _ => 0, fun _ => 0⟩
  refine ⟨?_, h.mem hG, ?_⟩
  · unfold sW8Args
    simp only [SV.okL, SV.ok, R.ok, E.i, b.e20, b.e21, b.e22, b.e23, b.e24]
    exact ⟨⟨bt, br, bs, bc, trivial⟩, s0, bx, trivial⟩
  · unfold sW8Args
    simp only [SV.denL, den_agg, den_int, E.i, b.e20, b.e21, b.e22, b.e23, b.e24, t0]
set_option maxRecDepth 100000 in
theorem share_sW8 (g : GD) (hk : g.ks = [true, true, false]) (t r s c x : Int) (bt : B64 t) (br : B64 r) (bs : B64 s) (bc : B64 c) (bx : B64 x) (w : World) (o : g.ok w) (q1 : (8 : Int) ≤ g.n) (q2 : (g.n : Int) ≤ 8) :
    Calls Try.prog 15 #[.agg #[.int .i64 t, .int .i64 r, .int .i64 s, .int .i64 c], .slice g.A g.n g.c, .int .i64 x] w fun e w' => e = .returned (.bool true) ∧ Below w.heap.size w w' := by
  obtain ⟨ρ0, h0⟩ := Jm.start shF noB (fun _ => g) (shM g t r s c x) (fun _ => false)
  exact law_true sW8_ran sW8_defs sW8_no (Jm shF noB (fun _ => g) (shM g t r s c x) (fun _ => false)) (fun ρ h => ⟨h.std.et, sLE_sum h.std o hk⟩) (fun ρ ρ' h hs => h.same hs) (fun ρ h hv => Eq.mpr (sW8_w ρ) trivial) (fun ρ h hv => sW8_e ρ) (fun ρ h => sW8Args_ok g hk t r s c x bt br bs bc bx w o q1 q2 h) h0
theorem sW9Args_ok (g : GD) (hk : g.ks = [true, true, false]) (t r s c x : Int) (bt : B64 t) (br : B64 r) (bs : B64 s) (bc : B64 c) (bx : B64 x) (w : World) (o : g.ok w) (q1 : (9 : Int) ≤ g.n) (q2 : (g.n : Int) ≤ 9) {ρ : Env} (h : Jm shF noB (fun _ => g) (shM g t r s c x) (fun _ => false) ρ) :
    SV.okL ρ (· < 0) sW9Args ∧ Mem ρ (· < w.heap.size) w ∧ SV.denL ρ ⟨fun _ => 0, fun _ => 0, fun _ => 0⟩ sW9Args = [.agg #[.int .i64 t, .int .i64 r, .int .i64 s, .int .i64 c], .slice g.A g.n g.c, .int .i64 x] := by
  have hG : ∀ k : Nat, ((fun _ => g) k).ok w := fun _ => o
  have b := h.shb
  obtain ⟨s0, t0⟩ := h.std.osl hG (k := 0) (sh := [.int .i64 (-9223372036854775808) 9223372036854775807, .int .i64 (-9223372036854775808) 9223372036854775807, .bool]) (by show g.ks.map ckOf = _; rw [hk]; rfl) (by show g.ks.length ≤ 100; rw [hk]; decide) (e := .c 9) (lo := 9) (hi := 9) (by show (9 : Int) = g.n; omega) (by decide) q1 q2 (· < 0) ⟨fun _ => 0, fun _ => 0, fun _ => 0⟩
  refine ⟨?_, h.mem hG, ?_⟩
  · unfold sW9Args
    simp only [SV.okL, SV.ok, R.ok, E.i, b.e20, b.e21, b.e22, b.e23, b.e24]
    exact ⟨⟨bt, br, bs, bc, trivial⟩, s0, bx, trivial⟩
  · unfold sW9Args
    simp only [SV.denL, den_agg, den_int, E.i, b.e20, b.e21, b.e22, b.e23, b.e24, t0]
set_option maxRecDepth 100000 in
theorem share_sW9 (g : GD) (hk : g.ks = [true, true, false]) (t r s c x : Int) (bt : B64 t) (br : B64 r) (bs : B64 s) (bc : B64 c) (bx : B64 x) (w : World) (o : g.ok w) (q1 : (9 : Int) ≤ g.n) (q2 : (g.n : Int) ≤ 9) :
    Calls Try.prog 15 #[.agg #[.int .i64 t, .int .i64 r, .int .i64 s, .int .i64 c], .slice g.A g.n g.c, .int .i64 x] w fun e w' => e = .returned (.bool true) ∧ Below w.heap.size w w' := by
  obtain ⟨ρ0, h0⟩ := Jm.start shF noB (fun _ => g) (shM g t r s c x) (fun _ => false)
  exact law_true sW9_ran sW9_defs sW9_no (Jm shF noB (fun _ => g) (shM g t r s c x) (fun _ => false)) (fun ρ h => ⟨h.std.et, sLE_sum h.std o hk⟩) (fun ρ ρ' h hs => h.same hs) (fun ρ h hv => Eq.mpr (sW9_w ρ) trivial) (fun ρ h hv => sW9_e ρ) (fun ρ h => sW9Args_ok g hk t r s c x bt br bs bc bx w o q1 q2 h) h0
theorem sWaArgs_ok (g : GD) (hk : g.ks = [true, true, false]) (t r s c x : Int) (bt : B64 t) (br : B64 r) (bs : B64 s) (bc : B64 c) (bx : B64 x) (w : World) (o : g.ok w) (q1 : (10 : Int) ≤ g.n) (q2 : (g.n : Int) ≤ 9223372036854775807) {ρ : Env} (h : Jm shF noB (fun _ => g) (shM g t r s c x) (fun _ => false) ρ) :
    SV.okL ρ (· < 0) sWaArgs ∧ Mem ρ (· < w.heap.size) w ∧ SV.denL ρ ⟨fun _ => 0, fun _ => 0, fun _ => 0⟩ sWaArgs = [.agg #[.int .i64 t, .int .i64 r, .int .i64 s, .int .i64 c], .slice g.A g.n g.c, .int .i64 x] := by
  have hG : ∀ k : Nat, ((fun _ => g) k).ok w := fun _ => o
  have b := h.shb
  obtain ⟨s0, t0⟩ := h.std.osl hG (k := 0) (sh := [.int .i64 (-9223372036854775808) 9223372036854775807, .int .i64 (-9223372036854775808) 9223372036854775807, .bool]) (by show g.ks.map ckOf = _; rw [hk]; rfl) (by show g.ks.length ≤ 100; rw [hk]; decide) (e := .v 4) (lo := 10) (hi := 9223372036854775807) b.l4 (by decide) q1 q2 (· < 0) ⟨fun _ => 0, fun _ => 0, fun _ => 0⟩
  refine ⟨?_, h.mem hG, ?_⟩
  · unfold sWaArgs
    simp only [SV.okL, SV.ok, R.ok, E.i, b.e20, b.e21, b.e22, b.e23, b.e24]
    exact ⟨⟨bt, br, bs, bc, trivial⟩, s0, bx, trivial⟩
  · unfold sWaArgs
    simp only [SV.denL, den_agg, den_int, E.i, b.e20, b.e21, b.e22, b.e23, b.e24, t0]
set_option maxRecDepth 100000 in
theorem share_sWa (g : GD) (hk : g.ks = [true, true, false]) (t r s c x : Int) (bt : B64 t) (br : B64 r) (bs : B64 s) (bc : B64 c) (bx : B64 x) (w : World) (o : g.ok w) (q1 : (10 : Int) ≤ g.n) (q2 : (g.n : Int) ≤ 9223372036854775807) :
    Calls Try.prog 15 #[.agg #[.int .i64 t, .int .i64 r, .int .i64 s, .int .i64 c], .slice g.A g.n g.c, .int .i64 x] w fun e w' => e = .returned (.bool true) ∧ Below w.heap.size w w' := by
  obtain ⟨ρ0, h0⟩ := Jm.start shF noB (fun _ => g) (shM g t r s c x) (fun _ => false)
  exact law_true sWa_ran sWa_defs sWa_no (Jm shF noB (fun _ => g) (shM g t r s c x) (fun _ => false)) (fun ρ h => ⟨h.std.et, sLE_sum h.std o hk⟩) (fun ρ ρ' h hs => h.same hs) (fun ρ h hv => Eq.mpr (sWa_w ρ) trivial) (fun ρ h hv => sWa_e ρ) (fun ρ h => sWaArgs_ok g hk t r s c x bt br bs bc bx w o q1 q2 h) h0
theorem shareSays_true (g : GD) (hk : g.ks = [true, true, false]) (t r s c x : Int) (bt : B64 t) (br : B64 r) (bs : B64 s) (bc : B64 c) (bx : B64 x) (w : World) (o : g.ok w) : Calls Try.prog 15 #[.agg #[.int .i64 t, .int .i64 r, .int .i64 s, .int .i64 c], .slice g.A g.n g.c, .int .i64 x] w fun e w' => e = .returned (.bool true) ∧ Below w.heap.size w w' := by
  have on := o.n
  obtain h | h | h | h | h | h | h | h | h | h | h : g.n = 0 ∨ g.n = 1 ∨ g.n = 2 ∨ g.n = 3 ∨ g.n = 4 ∨ g.n = 5 ∨ g.n = 6 ∨ g.n = 7 ∨ g.n = 8 ∨ g.n = 9 ∨ 10 ≤ g.n := by omega
  · exact share_sW0 g hk t r s c x bt br bs bc bx w o (by omega) (by omega)
  · exact share_sW1 g hk t r s c x bt br bs bc bx w o (by omega) (by omega)
  · exact share_sW2 g hk t r s c x bt br bs bc bx w o (by omega) (by omega)
  · exact share_sW3 g hk t r s c x bt br bs bc bx w o (by omega) (by omega)
  · exact share_sW4 g hk t r s c x bt br bs bc bx w o (by omega) (by omega)
  · exact share_sW5 g hk t r s c x bt br bs bc bx w o (by omega) (by omega)
  · exact share_sW6 g hk t r s c x bt br bs bc bx w o (by omega) (by omega)
  · exact share_sW7 g hk t r s c x bt br bs bc bx w o (by omega) (by omega)
  · exact share_sW8 g hk t r s c x bt br bs bc bx w o (by omega) (by omega)
  · exact share_sW9 g hk t r s c x bt br bs bc bx w o (by omega) (by omega)
  · exact share_sWa g hk t r s c x bt br bs bc bx w o (by omega) (by omega)
end Go.Proofs.Ytdfpenjhpemokaa.Sx
namespace Go.Proofs.Ytdfpenjhpemokaa
end Go.Proofs.Ytdfpenjhpemokaa
