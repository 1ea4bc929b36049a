/-
  The law GuardMade walked.
-/
import Derived.Test.YtdfpenjhpemokaaGuardMadeRun
import Derived.Test.YtdfpenjhpemokaaRow
import Derived.Test.YtdfpenjhpemokaaFrame
set_option linter.unusedVariables false
set_option linter.unusedSimpArgs false
namespace Go.Proofs.Ytdfpenjhpemokaa.Sx
open Go.RowKit
set_option maxRecDepth 100000 in
set_option maxHeartbeats 1000000 in
theorem guardMade_true (g : GD) (hk : g.ks = [true]) (x y z : Int) (hx : B64 x) (hy : B64 y) (hz : B64 z) (w : World) (o : g.ok w) :
    Calls Try.prog 8 #[.slice g.A g.n g.c, .int .i64 x, .int .i64 y, .int .i64 z] w fun e w' => e = .returned (.bool true) ∧ Below w.heap.size w w' := by
  obtain ⟨ρ0, h0, hm, s1, s2⟩ := dc_start o hk x y z ⟨fun _ => 0, fun _ => 0, fun _ => 0⟩
  have key := piece_ret (P := Try.prog) (cfg := cfgK gMSum gMKeeps 50 12) Try.func8 rfl (args := gMArgs) (H := []) (nx := 0) gM_ran0 gM_defs0 gM_no0 (V := .bool true) (DcJ g x y z)
    (fun ρ h => ⟨h.std.et, gM_sum h.std⟩) (fun ρ ρ' h hs => h.same hs) (by kernel_rfl)
    (fun ρ h => by
      have h1 := h.l4
      have h2 := h.n4
      have h5 := h.e5
      have h6 := h.e6
      have h7 := h.e7
      unfold B64 at hx hy hz
      refine List.forall_mem_cons.2 ⟨?_, List.forall_mem_cons.2 ⟨?_, List.forall_mem_cons.2 ⟨?_, List.forall_mem_cons.2 ⟨?_, fun _ h => nomatch h⟩⟩⟩⟩
      · exact fit_of (z := ρ.iv 4) rfl (by show (0 : Int) ≤ ρ.iv 4; omega) (by show ρ.iv 4 ≤ 9223372036854775807; omega)
      · exact fit_of (z := ρ.iv 5) rfl (by show (-9223372036854775808 : Int) ≤ ρ.iv 5; omega) (by show ρ.iv 5 ≤ 9223372036854775807; omega)
      · exact fit_of (z := ρ.iv 6) rfl (by show (-9223372036854775808 : Int) ≤ ρ.iv 6; omega) (by show ρ.iv 6 ≤ 9223372036854775807; omega)
      · exact fit_of (z := ρ.iv 7) rfl (by show (-9223372036854775808 : Int) ≤ ρ.iv 7; omega) (by show ρ.iv 7 ≤ 9223372036854775807; omega))
    (fun ρ h hv => Eq.mpr (gM_w0 ρ) (by
      obtain ⟨-, -, -, -, -, -, h6, -, -, -, -, h11, h12, h13, -, -, h16, h17, -, -, h20, -, -, -, -, -, h26, -, -, -, -, -, -, -, -, -, -, -, -, -, -, -, -, -, -, -, -, -, -, -, -, -, h52, -, h54, -, h56, h57, -, -, -, -, -, h63, -, -, h66, h67, h68, -, -, -, -, h73, -, -, -, -, h78, h79, h80, -, -, h83, h84, -, -, h87, -, -, -, -, -, h93, -, -, -, -, -, -, -, -, -, -, -, -, -, -, -, -, -, -, -, -, -, -, -, -, -, h119, -, h121, -, h123, h124, -, -, -, -, -, h130, -, -, h133, h134, h135, h136, h137, h138, h139, h140, h141, h142, -, h144, -, -, -, h148, -, h150, -, h152, h153, -, h155, h156, h157, h158, h159, h160, h161, h162, h163, h164, h165, -, h167, -, -, -, h171, -, h173, -, h175, h176, -, h178, h179, h180, h181, -, -, -, -, h186, -, -, -, -, -, -, -, -, -, -, -, -, -, -, -, -, -, -, -, -, -, -, -, -, -⟩ := Eq.mp (gM_says0 ρ) hv
      have hP : ∀ x n, 1 ≤ n → 0 ≤ ρ.fn 8 [x, n] ∧ ρ.fn 8 [x, n] < n := by
        intro x n hn
        rw [h.std.f rfl]
        exact ⟨Int.emod_nonneg x (by omega), Int.emod_lt_of_pos x (by omega)⟩
      have hB : ∀ p r s, 1 ≤ r → 0 ≤ ρ.fn 9 [p, r, s] := by
        intro p r s hr
        rw [h.std.f rfl]
        exact pbrake_nonneg hr s
      have A0 := axis_ok (P := fun x n => ρ.fn 8 [x, n]) hP (three_ok (P := fun x n => ρ.fn 8 [x, n]) h6 (by decide) (by decide) (by decide) (by decide)) h11 h12 h13 (three_ok (P := fun x n => ρ.fn 8 [x, n]) h16 (by decide) (by decide) (by decide) (by decide)) h17 h20 h52
      have B0 := wide_ok (P := fun x n => ρ.fn 8 [x, n]) hP (B := fun p r s => ρ.fn 9 [p, r, s]) hB (three_ok (P := fun x n => ρ.fn 8 [x, n]) h26 (by decide) (by decide) (by decide) (by decide)).1 A0.2.2.1 (Int.le_trans A0.2.2.1 A0.2.2.2.1) h54 h56 h57 (two_in (P := fun x n => ρ.fn 8 [x, n]) _ _ (by decide) (by decide)) h63 h66 h67 h68
      have A1 := axis_ok (P := fun x n => ρ.fn 8 [x, n]) hP (three_ok (P := fun x n => ρ.fn 8 [x, n]) h73 (by decide) (by decide) (by decide) (by decide)) h78 h79 h80 (three_ok (P := fun x n => ρ.fn 8 [x, n]) h83 (by decide) (by decide) (by decide) (by decide)) h84 h87 h119
      have B1 := wide_ok (P := fun x n => ρ.fn 8 [x, n]) hP (B := fun p r s => ρ.fn 9 [p, r, s]) hB (three_ok (P := fun x n => ρ.fn 8 [x, n]) h93 (by decide) (by decide) (by decide) (by decide)).1 A1.2.2.1 (Int.le_trans A1.2.2.1 A1.2.2.2.1) h121 h123 h124 (two_in (P := fun x n => ρ.fn 8 [x, n]) _ _ (by decide) (by decide)) h130 h133 h134 h135
      have A2 := axis_ok (P := fun x n => ρ.fn 8 [x, n]) hP (three_ok (P := fun x n => ρ.fn 8 [x, n]) h136 (by decide) (by decide) (by decide) (by decide)) h137 h138 h139 (three_ok (P := fun x n => ρ.fn 8 [x, n]) h140 (by decide) (by decide) (by decide) (by decide)) h141 h142 h148
      have B2 := wide_ok (P := fun x n => ρ.fn 8 [x, n]) hP (B := fun p r s => ρ.fn 9 [p, r, s]) hB (three_ok (P := fun x n => ρ.fn 8 [x, n]) h144 (by decide) (by decide) (by decide) (by decide)).1 A2.2.2.1 (Int.le_trans A2.2.2.1 A2.2.2.2.1) h150 h152 h153 (two_in (P := fun x n => ρ.fn 8 [x, n]) _ _ (by decide) (by decide)) h155 h156 h157 h158
      have A3 := axis_ok (P := fun x n => ρ.fn 8 [x, n]) hP (three_ok (P := fun x n => ρ.fn 8 [x, n]) h159 (by decide) (by decide) (by decide) (by decide)) h160 h161 h162 (three_ok (P := fun x n => ρ.fn 8 [x, n]) h163 (by decide) (by decide) (by decide) (by decide)) h164 h165 h171
      have B3 := wide_ok (P := fun x n => ρ.fn 8 [x, n]) hP (B := fun p r s => ρ.fn 9 [p, r, s]) hB (three_ok (P := fun x n => ρ.fn 8 [x, n]) h167 (by decide) (by decide) (by decide) (by decide)).1 A3.2.2.1 (Int.le_trans A3.2.2.1 A3.2.2.2.1) h173 h175 h176 (two_in (P := fun x n => ρ.fn 8 [x, n]) _ _ (by decide) (by decide)) h178 h179 h180 h181
      have hF : 1 ≤ ρ.iv 100528044510886706 - (if decide (0 < ρ.iv 4) = true then ρ.iv 2222554547483027506 else ρ.iv 1613166039031603507) + 1 := by
        rw [h186]
        split
        · have := B0; omega
        · have := B2; omega
      exact ⟨fun ⟨c, _⟩ => decide_eq_true (Int.emod_lt_of_pos _ (of_decide_eq_true c)), fun ⟨c, _⟩ => decide_eq_true (Int.emod_lt_of_pos _ (of_decide_eq_true c)), fun ⟨c, _⟩ => decide_eq_true (Int.emod_lt_of_pos _ (of_decide_eq_true c)), fun ⟨c, _⟩ => decide_eq_true (Int.emod_lt_of_pos _ (of_decide_eq_true c)), fun ⟨c, _⟩ => decide_eq_true (Int.emod_lt_of_pos _ (of_decide_eq_true c)), fun ⟨c, _⟩ => decide_eq_true (Int.emod_lt_of_pos _ (of_decide_eq_true c)), fun ⟨c, _⟩ => decide_eq_true (Int.emod_lt_of_pos _ (of_decide_eq_true c)), fun ⟨c, _⟩ => decide_eq_true (Int.emod_lt_of_pos _ (of_decide_eq_true c)), fun _ => decide_eq_true A0.1, fun ⟨c, _⟩ => decide_eq_true (Int.emod_lt_of_pos _ (of_decide_eq_true c)), fun ⟨c, _⟩ => decide_eq_true (Int.emod_lt_of_pos _ (of_decide_eq_true c)), fun ⟨c, _⟩ => decide_eq_true (Int.emod_lt_of_pos _ (of_decide_eq_true c)), fun ⟨c, _⟩ => decide_eq_true (Int.emod_lt_of_pos _ (of_decide_eq_true c)), fun ⟨c, _⟩ => decide_eq_true (Int.emod_lt_of_pos _ (of_decide_eq_true c)), fun ⟨c, _⟩ => decide_eq_true (Int.emod_lt_of_pos _ (of_decide_eq_true c)), fun ⟨c, _⟩ => decide_eq_true (Int.emod_lt_of_pos _ (of_decide_eq_true c)), fun ⟨c, _⟩ => decide_eq_true (Int.emod_lt_of_pos _ (of_decide_eq_true c)), fun ⟨c, _⟩ => decide_eq_true (Int.emod_lt_of_pos _ (of_decide_eq_true c)), fun ⟨c, _⟩ => decide_eq_true (Int.emod_lt_of_pos _ (of_decide_eq_true c)), fun ⟨c, _⟩ => decide_eq_true (Int.emod_lt_of_pos _ (of_decide_eq_true c)), fun ⟨c, _⟩ => decide_eq_true (Int.emod_lt_of_pos _ (of_decide_eq_true c)), fun _ => decide_eq_true A0.2.1, fun _ => decide_eq_true A0.2.1, fun ⟨c, _⟩ => decide_eq_true (Int.emod_lt_of_pos _ (of_decide_eq_true c)), fun ⟨c, _⟩ => decide_eq_true (Int.emod_lt_of_pos _ (of_decide_eq_true c)), fun ⟨c, _⟩ => decide_eq_true (Int.emod_lt_of_pos _ (of_decide_eq_true c)), fun ⟨c, _⟩ => decide_eq_true (Int.emod_lt_of_pos _ (of_decide_eq_true c)), fun ⟨c, _⟩ => decide_eq_true (Int.emod_lt_of_pos _ (of_decide_eq_true c)), fun ⟨c, _⟩ => decide_eq_true (Int.emod_lt_of_pos _ (of_decide_eq_true c)), fun ⟨c, _⟩ => decide_eq_true (Int.emod_lt_of_pos _ (of_decide_eq_true c)), fun ⟨c, _⟩ => decide_eq_true (Int.emod_lt_of_pos _ (of_decide_eq_true c)), fun ⟨c, _⟩ => decide_eq_true (Int.emod_lt_of_pos _ (of_decide_eq_true c)), fun ⟨c, _⟩ => decide_eq_true (Int.emod_lt_of_pos _ (of_decide_eq_true c)), fun _ => decide_eq_true A1.1, fun ⟨c, _⟩ => decide_eq_true (Int.emod_lt_of_pos _ (of_decide_eq_true c)), fun ⟨c, _⟩ => decide_eq_true (Int.emod_lt_of_pos _ (of_decide_eq_true c)), fun ⟨c, _⟩ => decide_eq_true (Int.emod_lt_of_pos _ (of_decide_eq_true c)), fun ⟨c, _⟩ => decide_eq_true (Int.emod_lt_of_pos _ (of_decide_eq_true c)), fun ⟨c, _⟩ => decide_eq_true (Int.emod_lt_of_pos _ (of_decide_eq_true c)), fun ⟨c, _⟩ => decide_eq_true (Int.emod_lt_of_pos _ (of_decide_eq_true c)), fun ⟨c, _⟩ => decide_eq_true (Int.emod_lt_of_pos _ (of_decide_eq_true c)), fun ⟨c, _⟩ => decide_eq_true (Int.emod_lt_of_pos _ (of_decide_eq_true c)), fun ⟨c, _⟩ => decide_eq_true (Int.emod_lt_of_pos _ (of_decide_eq_true c)), fun ⟨c, _⟩ => decide_eq_true (Int.emod_lt_of_pos _ (of_decide_eq_true c)), fun ⟨c, _⟩ => decide_eq_true (Int.emod_lt_of_pos _ (of_decide_eq_true c)), fun ⟨c, _⟩ => decide_eq_true (Int.emod_lt_of_pos _ (of_decide_eq_true c)), fun _ => decide_eq_true A1.2.1, fun _ => decide_eq_true A1.2.1, fun ⟨c, _⟩ => decide_eq_true (Int.emod_lt_of_pos _ (of_decide_eq_true c)), fun ⟨c, _⟩ => decide_eq_true (Int.emod_lt_of_pos _ (of_decide_eq_true c)), fun ⟨c, _⟩ => decide_eq_true (Int.emod_lt_of_pos _ (of_decide_eq_true c)), fun _ => decide_eq_true A2.1, fun _ => decide_eq_true A2.2.1, fun _ => decide_eq_true A2.2.1, fun _ => decide_eq_true A3.1, fun _ => decide_eq_true A3.2.1, fun _ => decide_eq_true A3.2.1, fun _ => decide_eq_true hF, trivial⟩))
    (by
      refine List.forall_mem_cons.2 ⟨?_, fun _ h => nomatch h⟩
      · intro ρ h hv hp
        refine ⟨.inr rfl, (fun _ h => nomatch h), [.bool (.bc true)], by kernel_rfl, fun b => ?_⟩
        rfl)
    h0 ⟨fun _ => 0, fun _ => 0, fun _ => 0⟩ w (noHeap _ _ _ _) ⟨s1, ⟨by show _ ≤ ρ0.iv 5; rw [h0.e5]; exact hx.1, by show ρ0.iv 5 ≤ _; rw [h0.e5]; exact hx.2⟩, ⟨by show _ ≤ ρ0.iv 6; rw [h0.e6]; exact hy.1, by show ρ0.iv 6 ≤ _; rw [h0.e6]; exact hy.2⟩, ⟨by show _ ≤ ρ0.iv 7; rw [h0.e7]; exact hz.1, by show ρ0.iv 7 ≤ _; rw [h0.e7]; exact hz.2⟩, trivial⟩ hm
  have e : SV.denL ρ0 ⟨fun _ => 0, fun _ => 0, fun _ => 0⟩ gMArgs = [.slice g.A g.n g.c, .int .i64 x, .int .i64 y, .int .i64 z] := by
    unfold gMArgs
    simp only [SV.denL]
    rw [s2]
    simp only [SV.den, E.i, h0.e5, h0.e6, h0.e7]
  rw [e] at key
  exact key
end Go.Proofs.Ytdfpenjhpemokaa.Sx
namespace Go.Proofs.Ytdfpenjhpemokaa
open Go.ChangeShapes Go.WideShapes Go.ChangeAt Go.Deep Go.RowKit in
set_option maxRecDepth 100000 in
theorem walkGuardMade {H : Type} (W : World) (base : Nat) (enc : TypeId × Value → H) (v0 v1 v2 v3 : Value) {d0 d1 d2 d3 : DataW H} {p0 p1 p2 p3 : List MemPlace}
    (k0 : Value.okWide Try.prog W .any base 78 v0) (k1 : Value.okWide Try.prog W .any base 3 v1) (k2 : Value.okWide Try.prog W .any base 3 v2) (k3 : Value.okWide Try.prog W .any base 3 v3)
    (h0 : DataW.Trod enc Try.prog W 0 (fun _ => true) true 78 v0 d0 p0) (_ : DataW.Trod enc Try.prog W 0 (fun _ => true) true 3 v1 d1 p1) (_ : DataW.Trod enc Try.prog W 0 (fun _ => true) true 3 v2 d2 p2) (_ : DataW.Trod enc Try.prog W 0 (fun _ => true) true 3 v3 d3 p3) :
    Calls Try.prog 8 #[v0, v1, v2, v3] W fun e W' => e = .returned (.bool true) ∧ Below W.heap.size W W' := by
  obtain ⟨g, hk, rfl, o⟩ := Sx.given_flat [true] (by decide) Try.underlying78 (by kernel_rfl) (by kernel_rfl) k0 h0
  obtain ⟨x, rfl, ex⟩ := okWide_int Try.underlying3 k1
  obtain ⟨y, rfl, ey⟩ := okWide_int Try.underlying3 k2
  obtain ⟨z, rfl, ez⟩ := okWide_int Try.underlying3 k3
  exact Sx.guardMade_true g hk x y z ex ey ez W o
end Go.Proofs.Ytdfpenjhpemokaa
