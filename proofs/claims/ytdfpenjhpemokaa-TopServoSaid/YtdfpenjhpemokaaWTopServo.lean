/-
  The law TopServo walked.
-/
import Derived.Test.YtdfpenjhpemokaaServoRun
import Derived.Test.YtdfpenjhpemokaaServoPl
import Derived.Test.YtdfpenjhpemokaaSxGiven
import Derived.Test.YtdfpenjhpemokaaTop
set_option linter.unusedVariables false
set_option linter.unusedSimpArgs false
namespace Go.Proofs.Ytdfpenjhpemokaa.Sx
open Go.RowKit

theorem ts_sum (ρ : Env) : HOK Try.prog ρ tsSum := plainSum_ok (constSum_ok (val := .bool true) (fun _ => rfl) (fun _ => trivial) (fun w => topAwake w))
/-- What is given. -/
def TsJ (ρ : Env) : Prop := ρ.et = 23 ∧ B64 (ρ.iv 0) ∧ B64 (ρ.iv 1) ∧ B64 (ρ.iv 2) ∧ B64 (ρ.iv 3) ∧ (0 ≤ ρ.iv 4 ∧ ρ.iv 4 ≤ 9223372036854775807) ∧ (0 ≤ ρ.iv 5 ∧ ρ.iv 5 ≤ 9223372036854775807)
/-- What holds at each round. -/
def TsP (x0 x1 x2 x3 x4 x5 x10 x11 x12 x13 : Int) (p10 : Bool) : Prop :=
  1 ≤ x0 ∧ x0 ≤ 1000 ∧ 1 ≤ x1 ∧ x1 ≤ x0 ∧ 0 ≤ x2 ∧ x2 ≤ x0 ∧ 1 ≤ x3 ∧ x3 ≤ 10 ∧ (0 ≤ x4 ∧ x4 ≤ 100) ∧ (0 ≤ x5 ∧ x5 ≤ 9223372036854775807) ∧ (0 ≤ x13 ∧ x13 ≤ 100) ∧ -x0 ≤ x10 ∧ x10 ≤ x0 ∧ 0 ≤ x11 ∧ x11 ≤ x3 ∧ x12 = x11 ∧ (p10 = true → x10 = 0 ∧ x11 = x3) ∧ (p10 = false → x11 < x3)
def TsI (ρ : Env) : Prop := ρ.et = 23 ∧ TsP (ρ.iv 0) (ρ.iv 1) (ρ.iv 2) (ρ.iv 3) (ρ.iv 4) (ρ.iv 5) (ρ.iv 10) (ρ.iv 11) (ρ.iv 12) (ρ.iv 13) (ρ.bv 10)
theorem iv_same {ρ ρ' : Env} (h : Same ρ ρ' [] []) {n : Nat} (hn : Nat.blt n 1000 = true) : ρ'.iv n = ρ.iv n := h.iv n (.inl (blt_lt hn))
theorem bv_same {ρ ρ' : Env} (h : Same ρ ρ' [] []) {n : Nat} (hn : Nat.blt n 1000 = true) : ρ'.bv n = ρ.bv n := h.bv n (.inl (blt_lt hn))
theorem TsJ_same (ρ ρ' : Env) (h : TsJ ρ) (hs : Same ρ ρ' [] []) : TsJ ρ' := by
  unfold TsJ at h ⊢
  rw [hs.et, iv_same hs (n := 0) rfl, iv_same hs (n := 1) rfl, iv_same hs (n := 2) rfl, iv_same hs (n := 3) rfl, iv_same hs (n := 4) rfl, iv_same hs (n := 5) rfl]
  exact h
theorem TsI_same (ρ ρ' : Env) (h : TsI ρ) (hs : Same ρ ρ' [] []) : TsI ρ' ∧ (100 - ρ'.iv 13).toNat = (100 - ρ.iv 13).toNat := by
  unfold TsI at h ⊢
  rw [hs.et, iv_same hs (n := 0) rfl, iv_same hs (n := 1) rfl, iv_same hs (n := 2) rfl, iv_same hs (n := 3) rfl, iv_same hs (n := 4) rfl, iv_same hs (n := 5) rfl, iv_same hs (n := 10) rfl, iv_same hs (n := 11) rfl, iv_same hs (n := 12) rfl, iv_same hs (n := 13) rfl, bv_same hs (n := 10) rfl]
  exact ⟨h, rfl⟩
theorem ts_e0 : ∀ s ∈ tsL0, ∀ ρ, TsJ ρ → saysL ρ tsV0 → andB ρ s.pc → (s.x = .ret ∧ s.S.rs = [] ∧ resultsOf Try.prog 20 s.S = some [.bool (.bc true)]) ∨ (s.x = .normal ∧ s.S = tsS1 ∧ TsI (ρ.sub s.σ)) := by
  refine List.forall_mem_cons.2 ⟨?_, List.forall_mem_cons.2 ⟨?_, fun _ h => nomatch h⟩⟩
  · intro ρ hJ hv hp
    exact .inl ⟨rfl, rfl, by kernel_rfl⟩
  · intro ρ hJ hv hp
    refine .inr ⟨rfl, rfl, hJ.1, ?_⟩
    have hv' := Eq.mp (ts_says0 ρ) hv
    have hp' := Eq.mp (ts_0_pc1 ρ) hp
    obtain ⟨_, _, _, _, _, h4, h5⟩ := hJ
    show TsP (ρ.iv 0) (ρ.iv 1) (ρ.iv 2) (ρ.iv 3) (ρ.iv 4) (ρ.iv 5) 0 0 0 0 false
    obtain ⟨h, _⟩ := hv'
    obtain ⟨p, _⟩ := hp'
    cases hq : ρ.bv 451020107088221882
    · rw [hq] at p; simp at p
    · rw [hq] at p h
      have h := h.symm
      simp only [Bool.and_eq_true, decide_eq_true_eq] at h
      simp at p
      unfold TsP
      refine ⟨h.1.1.1.1, h.1.1.1.2, h.1.1.2.1, h.1.1.2.2, h.1.2.1, h.1.2.2, h.2.1, h.2.2, ⟨h4.1, by omega⟩, h5, ⟨by omega, by omega⟩, by omega, by omega, by omega, by omega, rfl, fun h => (by cases h), fun _ => by omega⟩
theorem ts_e1 : ∀ s ∈ tsL1, ∀ ρ, TsI ρ → saysL ρ tsV1 → andB ρ s.pc → (s.x = .normal ∧ s.S = tsS1 ∧ TsI (ρ.sub s.σ) ∧ (100 - (ρ.sub s.σ).iv 13).toNat < (100 - ρ.iv 13).toNat) ∨ (s.x = .exit 0 ∧ s.S = tsS1 ∧ TsI (ρ.sub s.σ)) := by
  refine List.forall_mem_cons.2 ⟨?_, List.forall_mem_cons.2 ⟨?_, List.forall_mem_cons.2 ⟨?_, List.forall_mem_cons.2 ⟨?_, fun _ h => nomatch h⟩⟩⟩⟩
  · rintro ρ ⟨_, a0, a1, a2, a3, a4, a5, a6, a7, a8, a9, a10, a11, a12, a13, a14, a15, a16, a17⟩ hv hp
    obtain ⟨h0, h1, h2, h3, h4, h5, h6, h7, h8, h9, h10, h11, h12, h13, h14, h15, h16, h17, h18, h19, h20, h21, h22, h23, h24, h25, _⟩ := Eq.mp (ts_says1 ρ) hv
    obtain ⟨c0, c1, _⟩ := Eq.mp (ts_1_pc0 ρ) hp
    exact (ts_a h0 h1 h2 h3 h4 h5 h6 h7 h8 h9 h10 h11 h12 h13 h14 h15 h16 h17 h18 h19 h20 h21 h22 h23 h24 h25 c0 c1 a0 a1 a2 a3 a4 a5 a6 a7 a8 a10 a11 a12 a13 a14 a15 a16 a17).elim
  · rintro ρ ⟨_, a0, a1, a2, a3, a4, a5, a6, a7, a8, a9, a10, a11, a12, a13, a14, a15, a16, a17⟩ hv hp
    obtain ⟨h0, h1, h2, h3, h4, h5, h6, h7, h8, h9, h10, h11, h12, h13, h14, h15, h16, h17, h18, h19, h20, h21, h22, h23, h24, h25, _⟩ := Eq.mp (ts_says1 ρ) hv
    obtain ⟨c0, c1, c2, _⟩ := Eq.mp (ts_1_pc1 ρ) hp
    exact (ts_b h0 h1 h2 h3 h4 h5 h6 h7 h8 h9 h10 h11 h12 h13 h14 h15 h16 h17 h18 h19 h20 h21 h22 h23 h24 h25 c0 c1 c2 a0 a1 a2 a3 a4 a5 a6 a7 a8 a10 a11 a12 a13 a14 a15 a16 a17).elim
  · rintro ρ ⟨he, a0, a1, a2, a3, a4, a5, a6, a7, a8, a9, a10, a11, a12, a13, a14, a15, a16, a17⟩ hv hp
    obtain ⟨h0, h1, h2, h3, h4, h5, h6, h7, h8, h9, h10, h11, h12, h13, h14, h15, h16, h17, h18, h19, h20, h21, h22, h23, h24, h25, _⟩ := Eq.mp (ts_says1 ρ) hv
    obtain ⟨c0, c1, c2, _⟩ := Eq.mp (ts_1_pc2 ρ) hp
    obtain ⟨b0, b1, b2, b3, b4, b5, b6, b7⟩ := ts_c h0 h1 h2 h3 h4 h5 h6 h7 h8 h9 h10 h11 h12 h13 h14 h15 h16 h17 h18 h19 h20 h21 h22 h23 h24 h25 c0 c1 c2 a0 a1 a2 a3 a4 a5 a6 a7 a8 a10 a11 a12 a13 a14 a15 a16 a17
    refine .inl ⟨rfl, rfl, ⟨he, a0, a1, a2, a3, a4, a5, a6, a7, a8, a9, ⟨?_, b0⟩, b1, b2, b3, b4, b5, b6, b7⟩, ?_⟩
    · show 0 ≤ ρ.iv 13 + 1; omega
    · show (100 - (ρ.iv 13 + 1)).toNat < (100 - ρ.iv 13).toNat
      omega
  · rintro ρ hI hv hp
    exact .inr ⟨rfl, rfl, hI⟩
theorem ts_e2 : ∀ s ∈ tsL2, ∀ ρ, TsI ρ → saysL ρ tsV2 → andB ρ s.pc → (s.x = .normal ∨ s.x = .ret) ∧ s.S.rs = [] ∧ resultsOf Try.prog 20 s.S = some [.bool (.bc true)] := by
  refine List.forall_mem_cons.2 ⟨?_, fun _ h => nomatch h⟩
  intro ρ hI hv hp
  exact ⟨.inr rfl, rfl, by kernel_rfl⟩
set_option maxRecDepth 100000 in
theorem ts_true (y0 y1 y2 y3 : Int) (b0 : B64 y0) (b1 : B64 y1) (b2 : B64 y2) (b3 : B64 y3) (g0 g1 : GD) (k0 : g0.ks = [false, true]) (k1 : g1.ks = [true]) (w : World) (o0 : g0.ok w) (o1 : g1.ok w) :
    Calls Try.prog 20 #[.agg #[.int .i64 y0, .int .i64 y1, .int .i64 y2, .int .i64 y3], .slice g0.A g0.n g0.c, .slice g1.A g1.n g1.c] w fun e w' => e = .returned (.bool true) ∧ Below w.heap.size w w' := by
  have hG : ∀ k, ((fun k => match k with | 0 => g0 | 1 => g1 | _ => GD.none : Nat → GD) k).ok w := fun k => by
    match k with
    | 0 => exact o0
    | 1 => exact o1
    | k + 2 => exact GD.none_ok w
  have q0 := gen_osl (et := 23) (iv := fun n => match n with | 0 => y0 | 1 => y1 | 2 => y2 | 3 => y3 | 4 => g0.n | 5 => g1.n | _ => 0) (bv := fun _ => false) (fn := fun _ _ => 0) (fb := fun _ _ => false) (fl := fun _ _ => []) hG (k := 0) (m := 4) (sh := [.bool, .int .i64 (-9223372036854775808) 9223372036854775807]) (by show g0.ks.map ckOf = _; rw [k0]; rfl) rfl (by show g0.ks.length ≤ 100; rw [k0]; decide) (· < 0) ⟨fun _ => 0, fun _ => 0, fun _ => 0⟩
  have q1 := gen_osl (et := 23) (iv := fun n => match n with | 0 => y0 | 1 => y1 | 2 => y2 | 3 => y3 | 4 => g0.n | 5 => g1.n | _ => 0) (bv := fun _ => false) (fn := fun _ _ => 0) (fb := fun _ _ => false) (fl := fun _ _ => []) hG (k := 1) (m := 5) (sh := [.int .i64 (-9223372036854775808) 9223372036854775807]) (by show g1.ks.map ckOf = _; rw [k1]; rfl) rfl (by show g1.ks.length ≤ 100; rw [k1]; decide) (· < 0) ⟨fun _ => 0, fun _ => 0, fun _ => 0⟩
  have hm := gen_mem (et := 23) (iv := fun n => match n with | 0 => y0 | 1 => y1 | 2 => y2 | 3 => y3 | 4 => g0.n | 5 => g1.n | _ => 0) (bv := fun _ => false) (fn := fun _ _ => 0) (fb := fun _ _ => false) (fl := fun _ _ => []) hG
  have n0 := o0.n
  have n1 := o1.n
  have key := loop1_true (P := Try.prog) (cfg := cfgK tsSum tsKeeps 50 12) Try.func20 rfl (k := 6) (i := 0) (n := 9) (by decide +kernel) (by kernel_rfl) (args := tsArgs) (H := []) (nx := 0) ts_ran0 ts_defs0 ts_ran1 ts_defs1 ts_ran2 ts_defs2 TsJ TsI (fun ρ => (100 - ρ.iv 13).toNat)
    (fun ρ h => ⟨h.1, ts_sum ρ⟩) (fun ρ h => ⟨h.1, ts_sum ρ⟩) TsJ_same TsI_same (by kernel_rfl)
    (fun ρ h => by
      obtain ⟨_, h0, h1, h2, h3, h4, h5⟩ := h
      unfold B64 at *
      exact List.forall_mem_cons.2 ⟨h0, List.forall_mem_cons.2 ⟨h1, List.forall_mem_cons.2 ⟨h2, List.forall_mem_cons.2 ⟨h3, List.forall_mem_cons.2 ⟨h4, List.forall_mem_cons.2 ⟨h5, fun _ h => nomatch h⟩⟩⟩⟩⟩⟩)
    (fun ρ h => by
      obtain ⟨_, a0, a1, a2, a3, a4, a5, a6, a7, a8, a9, a10, a11, a12, a13, a14, a15, a16, a17⟩ := h
      have e : ∀ {r : R} {z : Int}, r.e.i ρ = z → r.lo ≤ z → z ≤ r.hi → r.fit ρ := fun h1 h2 h3 => by unfold R.fit; rw [h1]; exact ⟨h2, h3⟩
      refine List.forall_mem_cons.2 ⟨?_, List.forall_mem_cons.2 ⟨?_, List.forall_mem_cons.2 ⟨?_, List.forall_mem_cons.2 ⟨?_, List.forall_mem_cons.2 ⟨?_, List.forall_mem_cons.2 ⟨?_, List.forall_mem_cons.2 ⟨?_, List.forall_mem_cons.2 ⟨?_, List.forall_mem_cons.2 ⟨?_, List.forall_mem_cons.2 ⟨?_, fun _ h => nomatch h⟩⟩⟩⟩⟩⟩⟩⟩⟩⟩
      · exact e (z := ρ.iv 13) rfl (by show 0 ≤ ρ.iv 13; omega) (by show ρ.iv 13 ≤ 100; omega)
      · exact e (z := ρ.iv 12) rfl (by show 0 ≤ ρ.iv 12; omega) (by show ρ.iv 12 ≤ 10; omega)
      · exact e (z := ρ.iv 4) rfl (by show 0 ≤ ρ.iv 4; omega) (by show ρ.iv 4 ≤ 100; omega)
      · exact e (z := ρ.iv 5) rfl (by show 0 ≤ ρ.iv 5; omega) (by show ρ.iv 5 ≤ 9223372036854775807; omega)
      · exact e (z := ρ.iv 10) rfl (by show -1000 ≤ ρ.iv 10; omega) (by show ρ.iv 10 ≤ 1000; omega)
      · exact e (z := ρ.iv 11) rfl (by show 0 ≤ ρ.iv 11; omega) (by show ρ.iv 11 ≤ 10; omega)
      · exact e (z := ρ.iv 0) rfl (by show 1 ≤ ρ.iv 0; omega) (by show ρ.iv 0 ≤ 1000; omega)
      · exact e (z := ρ.iv 1) rfl (by show 1 ≤ ρ.iv 1; omega) (by show ρ.iv 1 ≤ 1000; omega)
      · exact e (z := ρ.iv 2) rfl (by show 0 ≤ ρ.iv 2; omega) (by show ρ.iv 2 ≤ 1000; omega)
      · exact e (z := ρ.iv 3) rfl (by show 1 ≤ ρ.iv 3; omega) (by show ρ.iv 3 ≤ 10; omega))
    ts_e0 ts_e1 ts_e2 (ρ := genEnv 23 (fun n => match n with | 0 => y0 | 1 => y1 | 2 => y2 | 3 => y3 | 4 => g0.n | 5 => g1.n | _ => 0) (fun _ => false) (fun _ _ => 0) (fun _ _ => false) (fun _ _ => []) (fun k => match k with | 0 => g0 | 1 => g1 | _ => GD.none))
    ⟨rfl, b0, b1, b2, b3, ⟨by show (0 : Int) ≤ (g0.n : Int); omega, by show (g0.n : Int) ≤ _; omega⟩, ⟨by show (0 : Int) ≤ (g1.n : Int); omega, by show (g1.n : Int) ≤ _; omega⟩⟩ ⟨fun _ => 0, fun _ => 0, fun _ => 0⟩ w ⟨fun n e hf => (by cases hf), fun n m e k hf => (by cases hf)⟩
    ⟨⟨b0, b1, b2, b3, trivial⟩, q0.1, q1.1, trivial⟩ hm
  have e : SV.denL (genEnv 23 (fun n => match n with | 0 => y0 | 1 => y1 | 2 => y2 | 3 => y3 | 4 => g0.n | 5 => g1.n | _ => 0) (fun _ => false) (fun _ _ => 0) (fun _ _ => false) (fun _ _ => []) (fun k => match k with | 0 => g0 | 1 => g1 | _ => GD.none)) ⟨fun _ => 0, fun _ => 0, fun _ => 0⟩ tsArgs = [.agg #[.int .i64 y0, .int .i64 y1, .int .i64 y2, .int .i64 y3], .slice g0.A g0.n g0.c, .slice g1.A g1.n g1.c] := by
    unfold tsArgs
    simp only [SV.denL]
    rw [q0.2, q1.2]
    simp only [SV.den, SV.denL, E.i, genEnv]
  rw [e] at key
  exact key

open Go.ChangeShapes Go.WideShapes Go.ChangeAt Go.Deep in
set_option maxRecDepth 100000 in
theorem walkTopServo {H : Type} (W : World) (base : Nat) (enc : TypeId × Value → H) (v0 v1 v2 : Value) {d0 d1 d2 : DataW H} {p0 p1 p2 : List MemPlace}
    (k0 : Value.okWide Try.prog W .any base 53 v0) (k1 : Value.okWide Try.prog W .any base 100 v1) (k2 : Value.okWide Try.prog W .any base 78 v2)
    (_ : DataW.Trod enc Try.prog W 0 (fun _ => true) true 53 v0 d0 p0) (h1 : DataW.Trod enc Try.prog W 0 (fun _ => true) true 100 v1 d1 p1) (h2 : DataW.Trod enc Try.prog W 0 (fun _ => true) true 78 v2 d2 p2) :
    Calls Try.prog 20 #[v0, v1, v2] W fun e W' => e = .returned (.bool true) ∧ Below W.heap.size W W' := by
  obtain ⟨cs0, rfl, hf0⟩ := flat_open [3, 3, 3, 3] Try.underlying53 (by kernel_rfl) (by kernel_rfl) k0
  obtain ⟨c0, cs1, rfl, hc0, hf1⟩ := okCells_cons hf0
  obtain ⟨y0, rfl, e0⟩ := cell_int Try.underlying3 hc0
  obtain ⟨c1, cs2, rfl, hc1, hf2⟩ := okCells_cons hf1
  obtain ⟨y1, rfl, e1⟩ := cell_int Try.underlying3 hc1
  obtain ⟨c2, cs3, rfl, hc2, hf3⟩ := okCells_cons hf2
  obtain ⟨y2, rfl, e2⟩ := cell_int Try.underlying3 hc2
  obtain ⟨c3, cs4, rfl, hc3, hf4⟩ := okCells_cons hf3
  obtain ⟨y3, rfl, e3⟩ := cell_int Try.underlying3 hc3
  obtain rfl := okCells_nil hf4
  obtain ⟨g0, kk0, rfl, o0⟩ := given_open [false, true] (by decide) Try.underlying100 (by kernel_rfl) (fun n cs x h => by
    have t0 := trod_field Try.underlying57 (by kernel_rfl) h (i := 0) rfl (.inr Try.underlying4)
    have t1 := trod_field Try.underlying57 (by kernel_rfl) h (i := 1) rfl (.inl Try.underlying3)
    intro j k hj
    match j, hj with
    | 0, hj => cases hj; exact ⟨fun h => (by cases h), fun _ => t0.2 Try.underlying4⟩
    | 1, hj => cases hj; exact ⟨fun _ => t1.1 Try.underlying3, fun h => (by cases h)⟩) k1 h1
  obtain ⟨g1, kk1, rfl, o1⟩ := given_open [true] (by decide) Try.underlying78 (by kernel_rfl) (fun n cs x h => by
    obtain ⟨y, hy, _, hw⟩ := DataW.trod_int Try.underlying3 h
    intro j k hj
    match j, hj with
    | 0, hj => cases hj; exact ⟨fun _ => ⟨y, by rw [hy]; rfl, wf_b64 hw⟩, fun h => (by cases h)⟩) k2 h2
  exact ts_true y0 y1 y2 y3 e0 e1 e2 e3 g0 g1 kk0 kk1 W o0 o1
end Go.Proofs.Ytdfpenjhpemokaa.Sx
namespace Go.Proofs.Ytdfpenjhpemokaa
open Go.ChangeShapes Go.WideShapes Go.ChangeAt Go.Deep Go.RowKit in
set_option maxRecDepth 100000 in
theorem walkTopServo {H : Type} (W : World) (base : Nat) (enc : TypeId × Value → H) (v0 v1 v2 : Value) {d0 d1 d2 : DataW H} {p0 p1 p2 : List MemPlace}
    (k0 : Value.okWide Try.prog W .any base 53 v0) (k1 : Value.okWide Try.prog W .any base 100 v1) (k2 : Value.okWide Try.prog W .any base 78 v2)
    (h0 : DataW.Trod enc Try.prog W 0 (fun _ => true) true 53 v0 d0 p0) (h1 : DataW.Trod enc Try.prog W 0 (fun _ => true) true 100 v1 d1 p1) (h2 : DataW.Trod enc Try.prog W 0 (fun _ => true) true 78 v2 d2 p2) :
    Calls Try.prog 20 #[v0, v1, v2] W fun e W' => e = .returned (.bool true) ∧ Below W.heap.size W W' := Sx.walkTopServo W base enc v0 v1 v2 k0 k1 k2 h0 h1 h2
end Go.Proofs.Ytdfpenjhpemokaa
