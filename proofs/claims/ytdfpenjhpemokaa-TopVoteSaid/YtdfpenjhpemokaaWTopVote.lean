/-
  The law TopVote walked.
-/
import Derived.Test.YtdfpenjhpemokaaTVoteRun
import Derived.Test.YtdfpenjhpemokaaTVotePl
import Derived.Test.YtdfpenjhpemokaaSxSame
import Derived.Test.YtdfpenjhpemokaaTop
set_option linter.unusedVariables false
set_option linter.unusedSimpArgs false
namespace Go.Proofs.Ytdfpenjhpemokaa.Sx
open Go.RowKit

theorem tv_sum (ρ : Env) : HOK Try.prog ρ tvSum := plainSum_ok (constSum_ok (val := .bool true) (fun _ => rfl) (fun _ => trivial) (fun w => topAwake w))
/-- What is given. -/
def TvJ (ρ : Env) : Prop := ρ.et = 23 ∧ B64 (ρ.iv 0) ∧ B64 (ρ.iv 1) ∧ B64 (ρ.iv 2) ∧ B64 (ρ.iv 3) ∧ (0 ≤ ρ.iv 4 ∧ ρ.iv 4 ≤ 9223372036854775807)
/-- What holds at each round. -/
def TvP (x0 x1 x4 x5 x6 x12 x13 x20 x21 x22 x23 : Int) (p20 p21 p22 : Bool) : Prop := (0 ≤ x0 ∧ x0 ≤ 1000000) ∧ (1 ≤ x1 ∧ x1 ≤ 10) ∧ (0 ≤ x4 ∧ x4 ≤ 100) ∧ (0 ≤ x5 ∧ x5 ≤ 3) ∧ (0 ≤ x6 ∧ x6 ≤ 1000) ∧ (2 * x6 ≤ x0) ∧ (0 ≤ x12 ∧ x12 ≤ x13) ∧ (0 ≤ x13 ∧ x13 ≤ 100) ∧ (0 ≤ x20 ∧ x20 ≤ 10) ∧ (0 ≤ x21 ∧ x21 ≤ 10) ∧ (0 ≤ x22 ∧ x22 ≤ 10) ∧ (-1000000 ≤ x23 ∧ x23 ≤ 1000000) ∧ (p20 = true → x5 = 0) ∧ (p21 = true → x5 = 1) ∧ (p22 = true → x5 = 2) ∧ (x5 = 0 → p20 = false → x12 ≤ x20 ∧ x20 < x1) ∧ (x5 = 1 → p21 = false → x12 ≤ x21 ∧ x21 < x1) ∧ (x5 = 2 → p22 = false → x12 ≤ x22 ∧ x22 < x1)
def TvI (ρ : Env) : Prop := ρ.et = 23 ∧ TvP (ρ.iv 0) (ρ.iv 1) (ρ.iv 4) (ρ.iv 5) (ρ.iv 6) (ρ.iv 12) (ρ.iv 13) (ρ.iv 20) (ρ.iv 21) (ρ.iv 22) (ρ.iv 23) (ρ.bv 20) (ρ.bv 21) (ρ.bv 22)
theorem TvJ_same (ρ ρ' : Env) (h : TvJ ρ) (hs : Same ρ ρ' [] []) : TvJ ρ' := by
  unfold TvJ at h ⊢
  rw [hs.et, iv_same hs (n := 0) rfl, iv_same hs (n := 1) rfl, iv_same hs (n := 2) rfl, iv_same hs (n := 3) rfl, iv_same hs (n := 4) rfl]
  exact h
theorem TvI_same (ρ ρ' : Env) (h : TvI ρ) (hs : Same ρ ρ' [] []) : TvI ρ' ∧ (100 - ρ'.iv 13).toNat = (100 - ρ.iv 13).toNat := by
  unfold TvI at h ⊢
  rw [hs.et, iv_same hs (n := 0) rfl, iv_same hs (n := 1) rfl, iv_same hs (n := 4) rfl, iv_same hs (n := 5) rfl, iv_same hs (n := 6) rfl, iv_same hs (n := 12) rfl, iv_same hs (n := 13) rfl, iv_same hs (n := 20) rfl, iv_same hs (n := 21) rfl, iv_same hs (n := 22) rfl, iv_same hs (n := 23) rfl, bv_same hs (n := 20) rfl, bv_same hs (n := 21) rfl, bv_same hs (n := 22) rfl]
  exact ⟨h, rfl⟩
theorem tmod4 (x : Int) : -4 < x.tmod 4 ∧ x.tmod 4 < 4 := ⟨Int.lt_tmod_of_pos x (by decide), Int.tmod_lt_of_pos x (by decide)⟩
theorem tv_e0 : ∀ s ∈ tvL0, ∀ ρ, TvJ ρ → saysL ρ tvV0 → andB ρ s.pc → (s.x = .ret ∧ s.S.rs = [] ∧ resultsOf Try.prog 26 s.S = some [.bool (.bc true)]) ∨ (s.x = .normal ∧ s.S = tvS1 ∧ TvI (ρ.sub s.σ)) := by
  refine List.forall_mem_cons.2 ⟨?_, List.forall_mem_cons.2 ⟨?_, fun _ h => nomatch h⟩⟩
  · intro ρ hJ hv hp
    exact .inl ⟨rfl, rfl, by kernel_rfl⟩
  · intro ρ hJ hv hp
    refine .inr ⟨rfl, rfl, hJ.1, ?_⟩
    obtain ⟨h0, h1, _⟩ := Eq.mp (tv_says0 ρ) hv
    obtain ⟨p, _⟩ := Eq.mp (tv_0_pc1 ρ) hp
    obtain ⟨_, _, _, _, _, h4⟩ := hJ
    show TvP (ρ.iv 0) (ρ.iv 1) (ρ.iv 4) (ρ.iv 1662736368031184802) (min (ρ.iv 2) 1000) 0 0 0 0 0 0 false false false
    have ht := tmod4 (ρ.iv 3)
    generalize ρ.iv 1662736368031184802 = l at *
    generalize ρ.iv 223666912612149922 = q at *
    simp only [Bool.not_eq_true', Bool.or_eq_false_iff, Bool.not_eq_false', decide_eq_true_eq, decide_eq_false_iff_not, Bool.and_eq_true] at p
    obtain ⟨⟨p1, p2, p3⟩, p4⟩ := p
    have hr : (0 ≤ ρ.iv 0 ∧ ρ.iv 0 ≤ 1000000) ∧ (1 ≤ ρ.iv 1 ∧ ρ.iv 1 ≤ 10) := by
      rw [p1] at h0
      by_cases hc : (0 ≤ ρ.iv 0 ∧ ρ.iv 0 ≤ 1000000) ∧ (1 ≤ ρ.iv 1 ∧ ρ.iv 1 ≤ 10)
      · exact hc
      · exfalso
        simp at h0
        omega
    obtain ⟨⟨r1, r2⟩, r3, r4⟩ := hr
    rw [Int.tdiv_eq_ediv_of_nonneg r1] at p3
    have hl : 0 ≤ l ∧ l ≤ 3 := by
      rw [h1]
      simp only [decide_eq_true_eq]
      split <;> omega
    unfold TvP
    exact ⟨⟨r1, r2⟩, ⟨r3, r4⟩, ⟨h4.1, by omega⟩, hl, by omega, by omega, by omega, by omega, by omega, by omega, by omega, by omega, fun h => (by cases h), fun h => (by cases h), fun h => (by cases h), fun _ _ => by omega, fun _ _ => by omega, fun _ _ => by omega⟩
theorem tv_e1 : ∀ s ∈ tvL1, ∀ ρ, TvI ρ → saysL ρ tvV1 → andB ρ s.pc → (s.x = .normal ∧ s.S = tvS1 ∧ TvI (ρ.sub s.σ) ∧ (100 - (ρ.sub s.σ).iv 13).toNat < (100 - ρ.iv 13).toNat) ∨ (s.x = .exit 0 ∧ s.S = tvS1 ∧ TvI (ρ.sub s.σ)) := by
  refine List.forall_mem_cons.2 ⟨?_, List.forall_mem_cons.2 ⟨?_, List.forall_mem_cons.2 ⟨?_, List.forall_mem_cons.2 ⟨?_, List.forall_mem_cons.2 ⟨?_, List.forall_mem_cons.2 ⟨?_, fun _ h => nomatch h⟩⟩⟩⟩⟩⟩
  · rintro ρ ⟨_, i0, i1, i2, i3, i4, i5, i6, i7, i8, i9, i10, i11, i12, i13, i14, i15, i16, i17⟩ hv hp
    obtain ⟨h0, h1, h2, h3, h4, h5, h6, h7, h8, h9, h10, h11, h12, h13, h14, h15, h16, h17, h18, h19, h20, h21, h22, h23, h24, h25, h26, h27, h28, h29, h30, h31, h32, h33, h34, h35, h36, h37, h38, h39, h40, h41, h42, h43, h44, h45, h46, h47, h48, h49, h50, h51, h52, h53, _⟩ := Eq.mp (tv_says1 ρ) hv
    obtain ⟨c0, c1, _⟩ := Eq.mp (tv_1_pc0 ρ) hp
    exact (tv_0 h0 h1 h2 h3 h4 h5 h6 h7 h8 h9 h10 h11 h12 h13 h14 h15 h16 h17 h18 h19 h20 h21 h22 h23 h24 h25 h26 h27 h28 h29 h30 h31 h32 h33 h34 h35 h36 h37 h38 h39 h40 h41 h42 h43 h44 h45 h46 h47 h48 h49 h50 h51 h52 h53 c0 c1 i0 i1 i2 i3 i4 i5 i6 i7 i8 i9 i10 i11 i12 i13 i14 i15 i16 i17).elim
  · rintro ρ ⟨_, i0, i1, i2, i3, i4, i5, i6, i7, i8, i9, i10, i11, i12, i13, i14, i15, i16, i17⟩ hv hp
    obtain ⟨h0, h1, h2, h3, h4, h5, h6, h7, h8, h9, h10, h11, h12, h13, h14, h15, h16, h17, h18, h19, h20, h21, h22, h23, h24, h25, h26, h27, h28, h29, h30, h31, h32, h33, h34, h35, h36, h37, h38, h39, h40, h41, h42, h43, h44, h45, h46, h47, h48, h49, h50, h51, h52, h53, _⟩ := Eq.mp (tv_says1 ρ) hv
    obtain ⟨c0, c1, c2, _⟩ := Eq.mp (tv_1_pc1 ρ) hp
    exact (tv_1 h0 h1 h2 h3 h4 h5 h6 h7 h8 h9 h10 h11 h12 h13 h14 h15 h16 h17 h18 h19 h20 h21 h22 h23 h24 h25 h26 h27 h28 h29 h30 h31 h32 h33 h34 h35 h36 h37 h38 h39 h40 h41 h42 h43 h44 h45 h46 h47 h48 h49 h50 h51 h52 h53 c0 c1 c2 i0 i1 i2 i3 i4 i5 i6 i7 i8 i9 i10 i11 i12 i13 i14 i15 i16 i17).elim
  · rintro ρ ⟨_, i0, i1, i2, i3, i4, i5, i6, i7, i8, i9, i10, i11, i12, i13, i14, i15, i16, i17⟩ hv hp
    obtain ⟨h0, h1, h2, h3, h4, h5, h6, h7, h8, h9, h10, h11, h12, h13, h14, h15, h16, h17, h18, h19, h20, h21, h22, h23, h24, h25, h26, h27, h28, h29, h30, h31, h32, h33, h34, h35, h36, h37, h38, h39, h40, h41, h42, h43, h44, h45, h46, h47, h48, h49, h50, h51, h52, h53, _⟩ := Eq.mp (tv_says1 ρ) hv
    obtain ⟨c0, c1, c2, c3, _⟩ := Eq.mp (tv_1_pc2 ρ) hp
    exact (tv_2 h0 h1 h2 h3 h4 h5 h6 h7 h8 h9 h10 h11 h12 h13 h14 h15 h16 h17 h18 h19 h20 h21 h22 h23 h24 h25 h26 h27 h28 h29 h30 h31 h32 h33 h34 h35 h36 h37 h38 h39 h40 h41 h42 h43 h44 h45 h46 h47 h48 h49 h50 h51 h52 h53 c0 c1 c2 c3 i0 i1 i2 i3 i4 i5 i6 i7 i8 i9 i10 i11 i12 i13 i14 i15 i16 i17).elim
  · rintro ρ ⟨_, i0, i1, i2, i3, i4, i5, i6, i7, i8, i9, i10, i11, i12, i13, i14, i15, i16, i17⟩ hv hp
    obtain ⟨h0, h1, h2, h3, h4, h5, h6, h7, h8, h9, h10, h11, h12, h13, h14, h15, h16, h17, h18, h19, h20, h21, h22, h23, h24, h25, h26, h27, h28, h29, h30, h31, h32, h33, h34, h35, h36, h37, h38, h39, h40, h41, h42, h43, h44, h45, h46, h47, h48, h49, h50, h51, h52, h53, _⟩ := Eq.mp (tv_says1 ρ) hv
    obtain ⟨c0, c1, c2, c3, c4, _⟩ := Eq.mp (tv_1_pc3 ρ) hp
    exact (tv_3 h0 h1 h2 h3 h4 h5 h6 h7 h8 h9 h10 h11 h12 h13 h14 h15 h16 h17 h18 h19 h20 h21 h22 h23 h24 h25 h26 h27 h28 h29 h30 h31 h32 h33 h34 h35 h36 h37 h38 h39 h40 h41 h42 h43 h44 h45 h46 h47 h48 h49 h50 h51 h52 h53 c0 c1 c2 c3 c4 i0 i1 i2 i3 i4 i5 i6 i7 i8 i9 i10 i11 i12 i13 i14 i15 i16 i17).elim
  · rintro ρ ⟨he, i0, i1, i2, i3, i4, i5, i6, i7, i8, i9, i10, i11, i12, i13, i14, i15, i16, i17⟩ hv hp
    obtain ⟨h0, h1, h2, h3, h4, h5, h6, h7, h8, h9, h10, h11, h12, h13, h14, h15, h16, h17, h18, h19, h20, h21, h22, h23, h24, h25, h26, h27, h28, h29, h30, h31, h32, h33, h34, h35, h36, h37, h38, h39, h40, h41, h42, h43, h44, h45, h46, h47, h48, h49, h50, h51, h52, h53, _⟩ := Eq.mp (tv_says1 ρ) hv
    obtain ⟨c0, c1, c2, c3, c4, _⟩ := Eq.mp (tv_1_pc4 ρ) hp
    obtain ⟨b6, b7, b8, b9, b10, b11, b12, b13, b14, b15, b16, b17⟩ := tv_4 h0 h1 h2 h3 h4 h5 h6 h7 h8 h9 h10 h11 h12 h13 h14 h15 h16 h17 h18 h19 h20 h21 h22 h23 h24 h25 h26 h27 h28 h29 h30 h31 h32 h33 h34 h35 h36 h37 h38 h39 h40 h41 h42 h43 h44 h45 h46 h47 h48 h49 h50 h51 h52 h53 c0 c1 c2 c3 c4 i0 i1 i2 i3 i4 i5 i6 i7 i8 i9 i10 i11 i12 i13 i14 i15 i16 i17
    refine .inl ⟨rfl, rfl, ⟨he, i0, i1, i2, i3, i4, i5, b6, b7, b8, b9, b10, b11, b12, b13, b14, b15, b16, b17⟩, ?_⟩
    show (100 - (ρ.iv 13 + 1)).toNat < (100 - ρ.iv 13).toNat
    omega
  · rintro ρ hI hv hp
    exact .inr ⟨rfl, rfl, hI⟩
theorem tv_e2 : ∀ s ∈ tvL2, ∀ ρ, TvI ρ → saysL ρ tvV2 → andB ρ s.pc → (s.x = .normal ∨ s.x = .ret) ∧ s.S.rs = [] ∧ resultsOf Try.prog 26 s.S = some [.bool (.bc true)] := by
  refine List.forall_mem_cons.2 ⟨?_, fun _ h => nomatch h⟩
  intro ρ hI hv hp
  exact ⟨.inr rfl, rfl, by kernel_rfl⟩
set_option maxRecDepth 100000 in
theorem tv_true (y0 y1 y2 y3 : Int) (b0 : B64 y0) (b1 : B64 y1) (b2 : B64 y2) (b3 : B64 y3) (g0 : GD) (k0 : g0.ks = [true, true, true, true, false, true]) (w : World) (o0 : g0.ok w) :
    Calls Try.prog 26 #[.agg #[.int .i64 y0, .int .i64 y1], .int .i64 y2, .int .i64 y3, .slice g0.A g0.n g0.c] w fun e w' => e = .returned (.bool true) ∧ Below w.heap.size w w' := by
  have hG : ∀ k, ((fun k => match k with | 0 => g0 | _ => GD.none : Nat → GD) k).ok w := fun k => by
    match k with
    | 0 => exact o0
    | k + 1 => exact GD.none_ok w
  have q0 := gen_osl (et := 23) (iv := fun n => match n with | 0 => y0 | 1 => y1 | 2 => y2 | 3 => y3 | 4 => g0.n | _ => 0) (bv := fun _ => false) (fn := fun _ _ => 0) (fb := fun _ _ => false) (fl := fun _ _ => []) hG (k := 0) (m := 4) (sh := [.int .i64 (-9223372036854775808) 9223372036854775807, .int .i64 (-9223372036854775808) 9223372036854775807, .int .i64 (-9223372036854775808) 9223372036854775807, .int .i64 (-9223372036854775808) 9223372036854775807, .bool, .int .i64 (-9223372036854775808) 9223372036854775807]) (by show g0.ks.map ckOf = _; rw [k0]; rfl) rfl (by show g0.ks.length ≤ 100; rw [k0]; decide) (· < 0) ⟨fun _ => 0, fun _ => 0, fun _ => 0⟩
  have hm := gen_mem (et := 23) (iv := fun n => match n with | 0 => y0 | 1 => y1 | 2 => y2 | 3 => y3 | 4 => g0.n | _ => 0) (bv := fun _ => false) (fn := fun _ _ => 0) (fb := fun _ _ => false) (fl := fun _ _ => []) hG
  have n0 := o0.n
  have key := loop1_true (P := Try.prog) (cfg := cfgK tvSum tvKeeps 50 12) Try.func26 rfl (k := 7) (i := 0) (n := 10) (by decide +kernel) (by kernel_rfl) (args := tvArgs) (H := []) (nx := 0) tv_ran0 tv_defs0 tv_ran1 tv_defs1 tv_ran2 tv_defs2 TvJ TvI (fun ρ => (100 - ρ.iv 13).toNat)
    (fun ρ h => ⟨h.1, tv_sum ρ⟩) (fun ρ h => ⟨h.1, tv_sum ρ⟩) TvJ_same TvI_same (by kernel_rfl)
    (fun ρ h => by
      obtain ⟨_, h0, h1, h2, h3, h4⟩ := h
      unfold B64 at *
      exact List.forall_mem_cons.2 ⟨h0, List.forall_mem_cons.2 ⟨h1, List.forall_mem_cons.2 ⟨h2, List.forall_mem_cons.2 ⟨h3, List.forall_mem_cons.2 ⟨h4, fun _ h => nomatch h⟩⟩⟩⟩⟩)
    (fun ρ h => by
      obtain ⟨_, i0, i1, i2, i3, i4, i5, i6, i7, i8, i9, i10, i11, _⟩ := h
      refine List.forall_mem_cons.2 ⟨?_, List.forall_mem_cons.2 ⟨?_, List.forall_mem_cons.2 ⟨?_, List.forall_mem_cons.2 ⟨?_, List.forall_mem_cons.2 ⟨?_, List.forall_mem_cons.2 ⟨?_, List.forall_mem_cons.2 ⟨?_, List.forall_mem_cons.2 ⟨?_, List.forall_mem_cons.2 ⟨?_, List.forall_mem_cons.2 ⟨?_, List.forall_mem_cons.2 ⟨?_, fun _ h => nomatch h⟩⟩⟩⟩⟩⟩⟩⟩⟩⟩⟩
      · exact fit_of (z := ρ.iv 13) rfl (by show (0 : Int) ≤ ρ.iv 13; omega) (by show ρ.iv 13 ≤ 100; omega)
      · exact fit_of (z := ρ.iv 12) rfl (by show (0 : Int) ≤ ρ.iv 12; omega) (by show ρ.iv 12 ≤ 100; omega)
      · exact fit_of (z := ρ.iv 5) rfl (by show (0 : Int) ≤ ρ.iv 5; omega) (by show ρ.iv 5 ≤ 3; omega)
      · exact fit_of (z := ρ.iv 6) rfl (by show (0 : Int) ≤ ρ.iv 6; omega) (by show ρ.iv 6 ≤ 1000; omega)
      · exact fit_of (z := ρ.iv 4) rfl (by show (0 : Int) ≤ ρ.iv 4; omega) (by show ρ.iv 4 ≤ 100; omega)
      · exact fit_of (z := ρ.iv 20) rfl (by show (0 : Int) ≤ ρ.iv 20; omega) (by show ρ.iv 20 ≤ 10; omega)
      · exact fit_of (z := ρ.iv 21) rfl (by show (0 : Int) ≤ ρ.iv 21; omega) (by show ρ.iv 21 ≤ 10; omega)
      · exact fit_of (z := ρ.iv 22) rfl (by show (0 : Int) ≤ ρ.iv 22; omega) (by show ρ.iv 22 ≤ 10; omega)
      · exact fit_of (z := ρ.iv 23) rfl (by show (-1000000 : Int) ≤ ρ.iv 23; omega) (by show ρ.iv 23 ≤ 1000000; omega)
      · exact fit_of (z := ρ.iv 0) rfl (by show (0 : Int) ≤ ρ.iv 0; omega) (by show ρ.iv 0 ≤ 1000000; omega)
      · exact fit_of (z := ρ.iv 1) rfl (by show (1 : Int) ≤ ρ.iv 1; omega) (by show ρ.iv 1 ≤ 10; omega))
    tv_e0 tv_e1 tv_e2 (ρ := genEnv 23 (fun n => match n with | 0 => y0 | 1 => y1 | 2 => y2 | 3 => y3 | 4 => g0.n | _ => 0) (fun _ => false) (fun _ _ => 0) (fun _ _ => false) (fun _ _ => []) (fun k => match k with | 0 => g0 | _ => GD.none))
    ⟨rfl, b0, b1, b2, b3, ⟨by show (0 : Int) ≤ (g0.n : Int); omega, by show (g0.n : Int) ≤ _; omega⟩⟩ ⟨fun _ => 0, fun _ => 0, fun _ => 0⟩ w ⟨fun n e hf => (by cases hf), fun n m e k hf => (by cases hf)⟩
    ⟨⟨b0, b1, trivial⟩, b2, b3, q0.1, trivial⟩ hm
  have e : SV.denL (genEnv 23 (fun n => match n with | 0 => y0 | 1 => y1 | 2 => y2 | 3 => y3 | 4 => g0.n | _ => 0) (fun _ => false) (fun _ _ => 0) (fun _ _ => false) (fun _ _ => []) (fun k => match k with | 0 => g0 | _ => GD.none)) ⟨fun _ => 0, fun _ => 0, fun _ => 0⟩ tvArgs = [.agg #[.int .i64 y0, .int .i64 y1], .int .i64 y2, .int .i64 y3, .slice g0.A g0.n g0.c] := by
    unfold tvArgs
    simp only [SV.denL]
    rw [q0.2]
    simp only [SV.den, SV.denL, E.i, genEnv]
  rw [e] at key
  exact key
end Go.Proofs.Ytdfpenjhpemokaa.Sx
namespace Go.Proofs.Ytdfpenjhpemokaa
open Go.ChangeShapes Go.WideShapes Go.ChangeAt Go.Deep Go.RowKit in
set_option maxRecDepth 100000 in
theorem walkTopVote {H : Type} (W : World) (base : Nat) (enc : TypeId × Value → H) (v0 v1 v2 v3 : Value) {d0 d1 d2 d3 : DataW H} {p0 p1 p2 p3 : List MemPlace}
    (k0 : Value.okWide Try.prog W .any base 99 v0) (k1 : Value.okWide Try.prog W .any base 3 v1) (k2 : Value.okWide Try.prog W .any base 3 v2) (k3 : Value.okWide Try.prog W .any base 198 v3)
    (_ : DataW.Trod enc Try.prog W 0 (fun _ => true) true 99 v0 d0 p0) (_ : DataW.Trod enc Try.prog W 0 (fun _ => true) true 3 v1 d1 p1) (_ : DataW.Trod enc Try.prog W 0 (fun _ => true) true 3 v2 d2 p2) (h3 : DataW.Trod enc Try.prog W 0 (fun _ => true) true 198 v3 d3 p3) :
    Calls Try.prog 26 #[v0, v1, v2, v3] W fun e W' => e = .returned (.bool true) ∧ Below W.heap.size W W' := by
  obtain ⟨cs0, rfl, hf0⟩ := flat_open [3, 3] Try.underlying99 (by kernel_rfl) (by kernel_rfl) k0
  obtain ⟨c0, cs1, rfl, hc0, hf1⟩ := okCells_cons hf0
  obtain ⟨y0, rfl, e0⟩ := cell_int Try.underlying3 hc0
  obtain ⟨c1, cs2, rfl, hc1, hf2⟩ := okCells_cons hf1
  obtain ⟨y1, rfl, e1⟩ := cell_int Try.underlying3 hc1
  obtain rfl := okCells_nil hf2
  obtain ⟨y2, rfl, e2⟩ := okWide_int Try.underlying3 k1
  obtain ⟨y3, rfl, e3⟩ := okWide_int Try.underlying3 k2
  obtain ⟨g0, kk0, rfl, o0⟩ := Sx.given_flat [true, true, true, true, false, true] (by decide) Try.underlying198 (by kernel_rfl) (by kernel_rfl) k3 h3
  exact Sx.tv_true y0 y1 y2 y3 e0 e1 e2 e3 g0 kk0 W o0
end Go.Proofs.Ytdfpenjhpemokaa
