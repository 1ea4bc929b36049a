/-
  The law VoteRuns walked.
-/
import Derived.Test.YtdfpenjhpemokaaVRRun
import Derived.Test.YtdfpenjhpemokaaVRPl
import Derived.Test.YtdfpenjhpemokaaWVoteSays
set_option linter.unusedVariables false
set_option linter.unusedSimpArgs false
namespace Go.Proofs.Ytdfpenjhpemokaa.Sx
open Go.RowKit

def smpT (g : GD) (k : Nat) : Bool := if k < g.n then g.fb k 0 else false
def smpX (g : GD) (k : Nat) : Int := if k < g.n then g.fi k 1 else 0
theorem smp_row {g : GD} {w : World} (h : g.ok w) (hk : g.ks = [false, true]) : SampRow w g.A g.n (smpT g) (smpX g) := by
  refine ⟨fun k hkn => ?_, fun k hkn => ?_⟩
  · obtain ⟨bl, off, h1, h2, h3⟩ := h.cell k 0 hkn (by rw [hk]; decide)
    obtain ⟨bl', off', g1, g2, g3⟩ := h.cell k 1 hkn (by rw [hk]; decide)
    rw [h1] at g1
    cases g1
    rw [hk] at h3 g3
    simp only [GD.val, hk] at h3 g3
    refine ⟨bl, off, h1, h2, ?_, ?_⟩
    · simp only [smpT, if_pos hkn]; exact h3
    · simp only [smpX, if_pos hkn]; exact g3
  · simp [smpT, smpX, Nat.not_lt.2 hkn]
theorem smp_b64 {g : GD} {w : World} (h : g.ok w) (k : Nat) : B64 (smpX g k) := by
  unfold smpX
  split
  · exact h.b64 _ _
  · unfold B64; omega
theorem samp_fin {ρ0 : Env} (h0 : VoteIn ρ0) {a : SV} {H : List (Nat × HEnt)} {v : SV}
    (hr : chkV (callN Try.prog 23 (cfgK noSum voteKeeps 50 12) (runDraw Try.prog 23) 20 [] 69 [a] H 1) v = true) (b : Bd) (w : World)
    (hH : HRel ρ0 b (· < w.heap.size) w H (· < 1)) (ha : a.ok ρ0 (· < 1)) {va vv : Value} (hva : a.den ρ0 b = va) (hvv : ∀ b', v.den ρ0 b' = vv) :
    Calls Try.prog 69 #[va] w fun e w' => e = .returned vv ∧ Below w.heap.size w w' := by
  obtain ⟨c, hc, hv⟩ := chkV_ok hr
  have key := run_fn h0.et (noSum_ok _ _) hc (fun v hv => by cases hv) b w hH ⟨ha, trivial⟩ (Mem.none h0.mv h0.mn)
  have e : (SV.denL ρ0 b [a]).toArray = #[va] := by simp only [SV.denL, hva]
  rw [e] at key
  refine key.mono ?_
  rintro e w' ⟨⟨b', h1, _⟩, h2⟩
  exact ⟨by rw [h1, hv, hvv b'], h2⟩
set_option maxRecDepth 100000 in
set_option maxHeartbeats 1000000 in
theorem samples_all (A : Option Addr) (n c : Nat) (t : Nat → Bool) (x : Nat → Int) (w : World) (hn : n ≤ 9223372036854775807) (HS : SampRow w A n t x) (bx : ∀ i, B64 (x i)) :
    Calls Try.prog 69 #[.slice A n c] w fun e w' => e = .returned (.agg #[.bool (t 0), .int .i64 (x 0), .bool (t 1), .int .i64 (x 1), .bool (t 2), .int .i64 (x 2)]) ∧ Below w.heap.size w w' := by
  have z64 : B64 0 := by unfold B64; omega
  have hin : VoteIn (voteEnv 0 0 0 0 0 0 false false false t x A n c) := by
    refine ⟨rfl, rfl, rfl, fun k hk => ?_⟩
    match k, hk with
    | 0, _ => exact z64
    | 1, _ => exact z64
    | 2, _ => exact z64
    | 3, _ => exact z64
    | 4, _ => exact z64
    | 5, _ => exact z64
    | 6, _ => exact bx 0
    | 7, _ => exact bx 1
    | 8, _ => exact bx 2
  have hbv : (voteEnv 0 0 0 0 0 0 false false false t x A n c).bv 3 = t 0 ∧ (voteEnv 0 0 0 0 0 0 false false false t x A n c).bv 4 = t 1 ∧ (voteEnv 0 0 0 0 0 0 false false false t x A n c).bv 5 = t 2 ∧ (voteEnv 0 0 0 0 0 0 false false false t x A n c).iv 6 = x 0 ∧ (voteEnv 0 0 0 0 0 0 false false false t x A n c).iv 7 = x 1 ∧ (voteEnv 0 0 0 0 0 0 false false false t x A n c).iv 8 = x 2 ∧ (voteEnv 0 0 0 0 0 0 false false false t x A n c).iv 9 = n := ⟨rfl, rfl, rfl, rfl, rfl, rfl, rfl⟩
  obtain ⟨r1, r2, r3, r4, r5, r6, r7⟩ := hbv
  by_cases h0 : n = 0
  · subst h0
    obtain ⟨t0, x0⟩ := HS.2 0 (by omega)
    obtain ⟨t1, x1⟩ := HS.2 1 (by omega)
    obtain ⟨t2, x2⟩ := HS.2 2 (by omega)
    exact samp_fin hin vote_samp0 ⟨fun _ => 0, fun _ => 0, fun _ => 0⟩ w ⟨fun n e hf => (by cases hf), fun n m e k hf => (by cases hf)⟩ trivial (by simp only [SV.den]; rfl) (fun b' => by simp only [SV.den, SV.denL, E.i, E.b, r1, r2, r3, r4, r5, r6, t0, t1, t2, x0, x1, x2])
  obtain ⟨bl, off, rfl, hb, hc0⟩ := HS.1 0 (by omega)
  have hcell : ∀ k, k < n → w.cell? ⟨bl, off + k * 2, none⟩ = some (.bool (t k)) ∧ w.cell? ⟨bl, off + k * 2 + 1, none⟩ = some (.int .i64 (x k)) := by
    intro k hk
    obtain ⟨b', off', he, _, hc⟩ := HS.1 k hk
    cases he
    exact hc
  have hok : ∀ m, SV.okL (voteEnv 0 0 0 0 0 0 false false false t x (some ⟨bl, off, none⟩) n c) (· < 1) (voteCells.take m) := by
    intro m
    have h2 : SV.okL (voteEnv 0 0 0 0 0 0 false false false t x (some ⟨bl, off, none⟩) n c) (· < 1) voteCells := voteCells_ok hin _
    exact (okL_all _ _ _).2 fun v hv => (okL_all _ _ _).1 h2 v (List.mem_of_mem_take hv)
  have hrel : ∀ m, m ≤ n → m ≤ 3 → HRel (voteEnv 0 0 0 0 0 0 false false false t x (some ⟨bl, off, none⟩) n c) ⟨fun _ => bl, fun _ => off, fun _ => c⟩ (· < w.heap.size) w [(0, ⟨[], ⟨voteCells.take (2 * m), 57, .far⟩⟩)] (· < 1) := by
    intro m hm hm3
    refine far_rel hb (fun i v hi => ?_) (hok _)
    rw [List.getElem?_take] at hi
    split at hi
    · rename_i hlt
      match i, hlt, hi with
      | 0, hl, hi => cases hi; simp only [SV.den, E.b, r1]; exact (hcell 0 (by omega)).1
      | 1, hl, hi => cases hi; simp only [SV.den, E.i, r4]; exact (hcell 0 (by omega)).2
      | 2, hl, hi => cases hi; simp only [SV.den, E.b, r2]; exact (hcell 1 (by omega)).1
      | 3, hl, hi => cases hi; simp only [SV.den, E.i, r5]; exact (hcell 1 (by omega)).2
      | 4, hl, hi => cases hi; simp only [SV.den, E.b, r3]; exact (hcell 2 (by omega)).1
      | 5, hl, hi => cases hi; simp only [SV.den, E.i, r6]; exact (hcell 2 (by omega)).2
      | k + 6, hl, hi => omega
    · cases hi
  by_cases h1 : n = 1
  · subst h1
    obtain ⟨t1, x1⟩ := HS.2 1 (by omega)
    obtain ⟨t2, x2⟩ := HS.2 2 (by omega)
    exact samp_fin hin vote_samp1 ⟨fun _ => bl, fun _ => off, fun _ => c⟩ w (hrel 1 (by omega) (by omega)) Nat.zero_lt_one (by simp only [SV.den]; rfl) (fun b' => by simp only [SV.den, SV.denL, E.i, E.b, r1, r2, r3, r4, r5, r6, t1, t2, x1, x2])
  by_cases h2 : n = 2
  · subst h2
    obtain ⟨t2, x2⟩ := HS.2 2 (by omega)
    exact samp_fin hin vote_samp2 ⟨fun _ => bl, fun _ => off, fun _ => c⟩ w (hrel 2 (by omega) (by omega)) Nat.zero_lt_one (by simp only [SV.den]; rfl) (fun b' => by simp only [SV.den, SV.denL, E.i, E.b, r1, r2, r3, r4, r5, r6, t2, x2])
  · exact samp_fin hin vote_samp3 ⟨fun _ => bl, fun _ => off, fun _ => c⟩ w (hrel 3 (by omega) (by omega)) (⟨Nat.zero_lt_one, ⟨by simp only [E.i, r7]; omega, by simp only [E.i, r7]; omega⟩, by decide⟩) (by simp only [SV.den, E.i]; rfl) (fun b' => by simp only [SV.den, SV.denL, E.i, E.b, r1, r2, r3, r4, r5, r6])

/-- What is given: the frames of samples. -/
structure VrG (ρ : Env) (D : ND) : Prop where
  et : ρ.et = 23
  es : ρ.es = fun id i => if id = 1000 then ((D.g i.toNat).A, (D.g i.toNat).n, (D.g i.toNat).c) else (none, 0, 0)
  mn : ρ.mn = fun id i => if id = 1000 then cellsF (D.g i.toNat).n (D.g i.toNat).ks.length (D.g i.toNat).val else []
  fn : ∀ i, ρ.fn 40 [i] = smpX (D.g i.toNat) 0 ∧ ρ.fn 41 [i] = smpX (D.g i.toNat) 1 ∧ ρ.fn 42 [i] = smpX (D.g i.toNat) 2
  fb : ∀ i, ρ.fb 40 [i] = smpT (D.g i.toNat) 0 ∧ ρ.fb 41 [i] = smpT (D.g i.toNat) 1 ∧ ρ.fb 42 [i] = smpT (D.g i.toNat) 2
theorem VrG.same {ρ ρ' : Env} {D : ND} (h : VrG ρ D) (hs : Same ρ ρ' [] []) : VrG ρ' D := ⟨hs.et.trans h.et, hs.es.trans h.es, hs.mn.trans h.mn, by rw [hs.fn]; exact h.fn, by rw [hs.fb]; exact h.fb⟩
/-- A slice of the frames, in a world where what is given lies. -/
theorem VrG.row {ρ : Env} {D : ND} (h : VrG ρ D) {w0 : World} (hD : D.ok w0 [false, true]) {base : Nat → Prop} {w : World} (hm : Mem ρ base w) (hb : ∀ k, base k → k < w.heap.size) (i : Int) : SampRow w (D.g i.toNat).A (D.g i.toNat).n (smpT (D.g i.toNat)) (smpX (D.g i.toNat)) := by
  obtain ⟨hg, hk⟩ := hD.g i.toNat
  refine ⟨fun k hkn => ?_, fun k hkn => by simp [smpT, smpX, Nat.not_lt.2 hkn]⟩
  have cell : ∀ j, j < 2 → ∃ p off, (D.g i.toNat).A = some ⟨p, off, none⟩ ∧ base p ∧ w.cell? ⟨p, off + (k * 2 + j), none⟩ = some ((D.g i.toNat).val k j) := by
    intro j hj
    have := hm.2 1000 i (k * 2 + j) ((D.g i.toNat).val k j) (by
      rw [h.mn]
      have hl : (D.g i.toNat).ks.length = 2 := by rw [hk]; rfl
      have := cellsF_get (g := (D.g i.toNat).val) hkn (show j < (D.g i.toNat).ks.length by rw [hl]; exact hj)
      rw [hl] at this
      simp only [if_true, hl]
      exact this)
    rw [h.es] at this
    exact this
  obtain ⟨p, off, h1, h2, h3⟩ := cell 0 (by decide)
  obtain ⟨p', off', g1, g2, g3⟩ := cell 1 (by decide)
  rw [h1] at g1
  cases g1
  simp only [GD.val, hk] at h3 g3
  refine ⟨p, off, h1, hb p h2, ?_, ?_⟩
  · simp only [smpT, if_pos hkn]; exact h3
  · simp only [smpX, if_pos hkn]; exact g3
theorem vr_sum {ρ : Env} {D : ND} (h : VrG ρ D) {w0 : World} (hD : D.ok w0 [false, true]) : HOK Try.prog ρ vrSum := by
  refine orSum_ok (argSum_ok ?_) (argSum_ok ?_)
  · intro args gs v hp hg b base w N hok hm hb
    unfold vsP at hp
    split at hp
    · rename_i r0 r1 r2 p0 p1 p2 r3 r4 r5 i
      split at hp
      · rename_i hin
        cases hp
        simp only [Bool.and_eq_true] at hin
        obtain ⟨⟨⟨⟨⟨n0, n1⟩, n2⟩, n3⟩, n4⟩, n5⟩ := hin
        obtain ⟨⟨a0, a1, a2, _, _, _, a3, _⟩, ⟨a4, a5, _⟩, a6, _⟩ := hok
        have key := VoteSays_all (r0.e.i ρ) (r1.e.i ρ) (r2.e.i ρ) (r3.e.i ρ) (r4.e.i ρ) (r5.e.i ρ) (p0.b ρ) (p1.b ρ) (p2.b ρ) (D.g (i.i ρ).toNat).A (D.g (i.i ρ).toNat).n (D.g (i.i ρ).toNat).c (smpT (D.g (i.i ρ).toNat)) (smpX (D.g (i.i ρ).toNat)) w (hD.g _).1.n (h.row hD hm hb _) (R.in64_ok n0 a0) (R.in64_ok n1 a1) (R.in64_ok n2 a2) (R.in64_ok n3 a3) (R.in64_ok n4 a4) (R.in64_ok n5 a5) (smp_b64 (hD.g _).1)
        have e : (SV.denL ρ b [.agg [.int .i64 r0, .int .i64 r1, .int .i64 r2, .bool p0, .bool p1, .bool p2, .int .i64 r3], .agg [.int .i64 r4, .int .i64 r5], .esl 1000 i]).toArray = #[.agg #[.int .i64 (r0.e.i ρ), .int .i64 (r1.e.i ρ), .int .i64 (r2.e.i ρ), .bool (p0.b ρ), .bool (p1.b ρ), .bool (p2.b ρ), .int .i64 (r3.e.i ρ)], .agg #[.int .i64 (r4.e.i ρ), .int .i64 (r5.e.i ρ)], .slice (D.g (i.i ρ).toNat).A (D.g (i.i ρ).toNat).n (D.g (i.i ρ).toNat).c] := by
          simp only [SV.denL, SV.den, Env.slc, h.es, if_true]
        rw [e]
        refine key.mono ?_
        rintro e w' ⟨h1, h2⟩
        exact ⟨h1, trivial, h2⟩
      · cases hp
    · cases hp
  · intro args gs v hp hg b base w N hok hm hb
    unfold smP at hp
    split at hp
    · cases hp
      rename_i i
      have key := samples_all (D.g (i.i ρ).toNat).A (D.g (i.i ρ).toNat).n (D.g (i.i ρ).toNat).c (smpT (D.g (i.i ρ).toNat)) (smpX (D.g (i.i ρ).toNat)) w (hD.g _).1.n (h.row hD hm hb _) (smp_b64 (hD.g _).1)
      have e : (SV.denL ρ b [.esl 1000 i]).toArray = #[.slice (D.g (i.i ρ).toNat).A (D.g (i.i ρ).toNat).n (D.g (i.i ρ).toNat).c] := by
        simp only [SV.denL, SV.den, Env.slc, h.es, if_true]
      rw [e]
      refine key.mono ?_
      rintro e w' ⟨h1, h2⟩
      have hx := fun k => smp_b64 (hD.g (i.i ρ).toNat).1 k
      refine ⟨?_, ?_, h2⟩
      · rw [h1]
        simp only [SV.den, SV.denL, E.i, E.b, E.l, (h.fn _).1, (h.fn _).2.1, (h.fn _).2.2, (h.fb _).1, (h.fb _).2.1, (h.fb _).2.2]
      · simp only [SV.ok, SV.okL, R.ok, E.i, E.l, (h.fn _).1, (h.fn _).2.1, (h.fn _).2.2, and_true, true_and]
        exact ⟨hx 0, hx 1, hx 2⟩
    · cases hp
def VrJ (D : ND) (ρ : Env) : Prop := VrG ρ D ∧ B64 (ρ.iv 0) ∧ B64 (ρ.iv 1) ∧ (0 ≤ ρ.iv 4 ∧ ρ.iv 4 ≤ 9223372036854775807)
def VrP (x0 x1 x4 x13 x20 x21 x22 x23 : Int) : Prop := (0 ≤ x0 ∧ x0 ≤ 1000000) ∧ (1 ≤ x1 ∧ x1 ≤ 10) ∧ (0 ≤ x4 ∧ x4 ≤ 60) ∧ (0 ≤ x13 ∧ x13 ≤ 60) ∧ (0 ≤ x20 ∧ x20 ≤ 10) ∧ (0 ≤ x21 ∧ x21 ≤ 10) ∧ (0 ≤ x22 ∧ x22 ≤ 10) ∧ (-1000000 ≤ x23 ∧ x23 ≤ 1000000)
def VrI (D : ND) (ρ : Env) : Prop := VrG ρ D ∧ VrP (ρ.iv 0) (ρ.iv 1) (ρ.iv 4) (ρ.iv 13) (ρ.iv 20) (ρ.iv 21) (ρ.iv 22) (ρ.iv 23)
theorem VrJ_same (D : ND) (ρ ρ' : Env) (h : VrJ D ρ) (hs : Same ρ ρ' [] []) : VrJ D ρ' := by
  refine ⟨h.1.same hs, ?_⟩
  rw [iv_same hs (n := 0) rfl, iv_same hs (n := 1) rfl, iv_same hs (n := 4) rfl]
  exact h.2
theorem VrI_same (D : ND) (ρ ρ' : Env) (h : VrI D ρ) (hs : Same ρ ρ' [] []) : VrI D ρ' ∧ (60 - ρ'.iv 13).toNat = (60 - ρ.iv 13).toNat := by
  refine ⟨⟨h.1.same hs, ?_⟩, by rw [iv_same hs (n := 13) rfl]⟩
  rw [iv_same hs (n := 0) rfl, iv_same hs (n := 1) rfl, iv_same hs (n := 4) rfl, iv_same hs (n := 13) rfl, iv_same hs (n := 20) rfl, iv_same hs (n := 21) rfl, iv_same hs (n := 22) rfl, iv_same hs (n := 23) rfl]
  exact h.2
theorem vr_e0 (D : ND) : ∀ s ∈ vrL0, ∀ ρ, VrJ D ρ → saysL ρ vrV0 → andB ρ s.pc → (s.x = .ret ∧ s.S.rs = [] ∧ resultsOf Try.prog 11 s.S = some [.bool (.bc true)]) ∨ (s.x = .normal ∧ s.S = vrS1 ∧ VrI D (ρ.sub s.σ)) := by
  refine List.forall_mem_cons.2 ⟨?_, List.forall_mem_cons.2 ⟨?_, fun _ h => nomatch h⟩⟩
  · intro ρ hJ hv hp
    exact .inl ⟨rfl, rfl, by kernel_rfl⟩
  · intro ρ hJ hv hp
    refine .inr ⟨rfl, rfl, ⟨hJ.1.et, hJ.1.es, hJ.1.mn, hJ.1.fn, hJ.1.fb⟩, ?_⟩
    obtain ⟨h0, _⟩ := Eq.mp (vr_says0 ρ) hv
    obtain ⟨p, _⟩ := Eq.mp (vr_0_pc1 ρ) hp
    obtain ⟨_, _, _, h4⟩ := hJ
    show VrP (ρ.iv 0) (ρ.iv 1) (ρ.iv 4) 0 0 0 0 0
    simp only [Bool.not_eq_true', Bool.or_eq_false_iff, Bool.not_eq_false', decide_eq_true_eq, decide_eq_false_iff_not, Bool.and_eq_true] at p
    obtain ⟨p4, p1⟩ := p
    rw [p1] at h0
    have hr : (0 ≤ ρ.iv 0 ∧ ρ.iv 0 ≤ 1000000) ∧ (1 ≤ ρ.iv 1 ∧ ρ.iv 1 ≤ 10) := by
      by_cases hc : (0 ≤ ρ.iv 0 ∧ ρ.iv 0 ≤ 1000000) ∧ (1 ≤ ρ.iv 1 ∧ ρ.iv 1 ≤ 10)
      · exact hc
      · exfalso
        simp at h0
        omega
    unfold VrP
    omega
theorem vr_e1 (D : ND) : ∀ s ∈ vrL1, ∀ ρ, VrI D ρ → saysL ρ vrV1 → andB ρ s.pc → (s.x = .normal ∧ s.S = vrS1 ∧ VrI D (ρ.sub s.σ) ∧ (60 - (ρ.sub s.σ).iv 13).toNat < (60 - ρ.iv 13).toNat) ∨ (s.x = .exit 0 ∧ s.S = vrS1 ∧ VrI D (ρ.sub s.σ)) := by
  refine List.forall_mem_cons.2 ⟨?_, List.forall_mem_cons.2 ⟨?_, fun _ h => nomatch h⟩⟩
  · rintro ρ ⟨hG, i0, i1, i2, i3, i4, i5, i6, i7⟩ hv hp
    obtain ⟨h0, h1, h2, h3, h4, h5, h6, h7, h8, h9, h10, h11, h12, h13, h14, h15, h16, h17, h18, h19, h20, h21, h22, h23, h24, h25, h26, h27, h28, h29, h30, h31, h32, h33, h34, h35, h36, h37, h38, h39, h40, h41, h42, h43, h44, h45, h46, h47, h48, h49, h50, h51, _⟩ := Eq.mp (vr_says1 ρ) hv
    obtain ⟨c0, _⟩ := Eq.mp (vr_1_pc0 ρ) hp
    have c1 := of_decide_eq_true c0
    have b20 := vr_20 h0 h1 h2 h3 h4 h5 h6 h13 h14 h17 h18 h21 h25 h26 h29 h33 h37 h42 h48 i4
    have b21 := vr_21 h0 h1 h2 h3 h7 h8 h9 h13 h15 h17 h19 h23 h25 h27 h30 h34 h38 h43 h49 i5
    have b22 := vr_22 h0 h1 h2 h3 h10 h11 h12 h13 h16 h17 h20 h24 h25 h28 h32 h35 h39 h44 h50 i6
    have b23 := vr_23 h0 h1 h2 h3 h13 h17 h25 h40 h51 i7
    refine .inl ⟨rfl, rfl, ⟨⟨hG.et, hG.es, hG.mn, hG.fn, hG.fb⟩, i0, i1, i2, ⟨?_, ?_⟩, b20, b21, b22, b23⟩, ?_⟩
    · show 0 ≤ ρ.iv 13 + 1; omega
    · show ρ.iv 13 + 1 ≤ 60; omega
    · show (60 - (ρ.iv 13 + 1)).toNat < (60 - ρ.iv 13).toNat
      omega
  · rintro ρ hI hv hp
    exact .inr ⟨rfl, rfl, ⟨⟨hI.1.et, hI.1.es, hI.1.mn, hI.1.fn, hI.1.fb⟩, hI.2⟩⟩
theorem vr_e2 (D : ND) : ∀ s ∈ vrL2, ∀ ρ, VrI D ρ → saysL ρ vrV2 → andB ρ s.pc → (s.x = .normal ∨ s.x = .ret) ∧ s.S.rs = [] ∧ resultsOf Try.prog 11 s.S = some [.bool (.bc true)] := by
  refine List.forall_mem_cons.2 ⟨?_, fun _ h => nomatch h⟩
  intro ρ hI hv hp
  exact ⟨.inr rfl, rfl, by kernel_rfl⟩
set_option maxRecDepth 100000 in
theorem vr_true (y0 y1 : Int) (b0 : B64 y0) (b1 : B64 y1) (D : ND) (w : World) (hD : D.ok w [false, true]) :
    Calls Try.prog 11 #[.agg #[.int .i64 y0, .int .i64 y1], .slice D.A D.n D.c] w fun e w' => e = .returned (.bool true) ∧ Below w.heap.size w w' := by
  have q0 := nest_osl (et := 23) (iv := fun n => match n with | 0 => y0 | 1 => y1 | 4 => D.n | _ => 0) (bv := fun _ => false) (fn := fun id l => match id with | 40 => smpX (D.g (l.headD 0).toNat) 0 | 41 => smpX (D.g (l.headD 0).toNat) 1 | 42 => smpX (D.g (l.headD 0).toNat) 2 | _ => 0) (fb := fun id l => match id with | 40 => smpT (D.g (l.headD 0).toNat) 0 | 41 => smpT (D.g (l.headD 0).toNat) 1 | 42 => smpT (D.g (l.headD 0).toNat) 2 | _ => false) (fl := fun _ _ => []) hD (m := 4) rfl (· < 0) ⟨fun _ => 0, fun _ => 0, fun _ => 0⟩
  have hm := nest_mem (et := 23) (iv := fun n => match n with | 0 => y0 | 1 => y1 | 4 => D.n | _ => 0) (bv := fun _ => false) (fn := fun id l => match id with | 40 => smpX (D.g (l.headD 0).toNat) 0 | 41 => smpX (D.g (l.headD 0).toNat) 1 | 42 => smpX (D.g (l.headD 0).toNat) 2 | _ => 0) (fb := fun id l => match id with | 40 => smpT (D.g (l.headD 0).toNat) 0 | 41 => smpT (D.g (l.headD 0).toNat) 1 | 42 => smpT (D.g (l.headD 0).toNat) 2 | _ => false) (fl := fun _ _ => []) hD
  have n0 := hD.n
  have hG : VrG (nestEnv 23 (fun n => match n with | 0 => y0 | 1 => y1 | 4 => D.n | _ => 0) (fun _ => false) (fun id l => match id with | 40 => smpX (D.g (l.headD 0).toNat) 0 | 41 => smpX (D.g (l.headD 0).toNat) 1 | 42 => smpX (D.g (l.headD 0).toNat) 2 | _ => 0) (fun id l => match id with | 40 => smpT (D.g (l.headD 0).toNat) 0 | 41 => smpT (D.g (l.headD 0).toNat) 1 | 42 => smpT (D.g (l.headD 0).toNat) 2 | _ => false) (fun _ _ => []) D) D := ⟨rfl, rfl, rfl, fun i => ⟨rfl, rfl, rfl⟩, fun i => ⟨rfl, rfl, rfl⟩⟩
  have key := loop1_true (P := Try.prog) (cfg := cfgK vrSum vrKeeps 50 12) Try.func11 rfl (k := 5) (i := 0) (n := 8) (by decide +kernel) (by kernel_rfl) (args := vrArgs) (H := []) (nx := 0) vr_ran0 vr_defs0 vr_ran1 vr_defs1 vr_ran2 vr_defs2 (VrJ D) (VrI D) (fun ρ => (60 - ρ.iv 13).toNat)
    (fun ρ h => ⟨h.1.et, vr_sum h.1 hD⟩) (fun ρ h => ⟨h.1.et, vr_sum h.1 hD⟩) (VrJ_same D) (VrI_same D) (by kernel_rfl)
    (fun ρ h => by
      obtain ⟨_, h0, h1, h4⟩ := h
      unfold B64 at *
      exact List.forall_mem_cons.2 ⟨h0, List.forall_mem_cons.2 ⟨h1, List.forall_mem_cons.2 ⟨h4, fun _ h => nomatch h⟩⟩⟩)
    (fun ρ h => by
      obtain ⟨_, i0, i1, i2, i3, i4, i5, i6, i7⟩ := h
      refine List.forall_mem_cons.2 ⟨?_, List.forall_mem_cons.2 ⟨?_, List.forall_mem_cons.2 ⟨?_, List.forall_mem_cons.2 ⟨?_, List.forall_mem_cons.2 ⟨?_, List.forall_mem_cons.2 ⟨?_, List.forall_mem_cons.2 ⟨?_, List.forall_mem_cons.2 ⟨?_, fun _ h => nomatch h⟩⟩⟩⟩⟩⟩⟩⟩
      · exact fit_of (z := ρ.iv 13) rfl (by show (0 : Int) ≤ ρ.iv 13; omega) (by show ρ.iv 13 ≤ 60; omega)
      · exact fit_of (z := ρ.iv 4) rfl (by show (0 : Int) ≤ ρ.iv 4; omega) (by show ρ.iv 4 ≤ 60; omega)
      · exact fit_of (z := ρ.iv 20) rfl (by show (0 : Int) ≤ ρ.iv 20; omega) (by show ρ.iv 20 ≤ 10; omega)
      · exact fit_of (z := ρ.iv 21) rfl (by show (0 : Int) ≤ ρ.iv 21; omega) (by show ρ.iv 21 ≤ 10; omega)
      · exact fit_of (z := ρ.iv 22) rfl (by show (0 : Int) ≤ ρ.iv 22; omega) (by show ρ.iv 22 ≤ 10; omega)
      · exact fit_of (z := ρ.iv 23) rfl (by show (-1000000 : Int) ≤ ρ.iv 23; omega) (by show ρ.iv 23 ≤ 1000000; omega)
      · exact fit_of (z := ρ.iv 0) rfl (by show (0 : Int) ≤ ρ.iv 0; omega) (by show ρ.iv 0 ≤ 1000000; omega)
      · exact fit_of (z := ρ.iv 1) rfl (by show (1 : Int) ≤ ρ.iv 1; omega) (by show ρ.iv 1 ≤ 10; omega))
    (vr_e0 D) (vr_e1 D) (vr_e2 D) (ρ := nestEnv 23 (fun n => match n with | 0 => y0 | 1 => y1 | 4 => D.n | _ => 0) (fun _ => false) (fun id l => match id with | 40 => smpX (D.g (l.headD 0).toNat) 0 | 41 => smpX (D.g (l.headD 0).toNat) 1 | 42 => smpX (D.g (l.headD 0).toNat) 2 | _ => 0) (fun id l => match id with | 40 => smpT (D.g (l.headD 0).toNat) 0 | 41 => smpT (D.g (l.headD 0).toNat) 1 | 42 => smpT (D.g (l.headD 0).toNat) 2 | _ => false) (fun _ _ => []) D)
    ⟨hG, b0, b1, ⟨by show (0 : Int) ≤ (D.n : Int); omega, by show (D.n : Int) ≤ _; omega⟩⟩ ⟨fun _ => 0, fun _ => 0, fun _ => 0⟩ w ⟨fun n e hf => (by cases hf), fun n m e k hf => (by cases hf)⟩
    ⟨⟨b0, b1, trivial⟩, q0.1, trivial⟩ hm
  have e : SV.denL (nestEnv 23 (fun n => match n with | 0 => y0 | 1 => y1 | 4 => D.n | _ => 0) (fun _ => false) (fun id l => match id with | 40 => smpX (D.g (l.headD 0).toNat) 0 | 41 => smpX (D.g (l.headD 0).toNat) 1 | 42 => smpX (D.g (l.headD 0).toNat) 2 | _ => 0) (fun id l => match id with | 40 => smpT (D.g (l.headD 0).toNat) 0 | 41 => smpT (D.g (l.headD 0).toNat) 1 | 42 => smpT (D.g (l.headD 0).toNat) 2 | _ => false) (fun _ _ => []) D) ⟨fun _ => 0, fun _ => 0, fun _ => 0⟩ vrArgs = [.agg #[.int .i64 y0, .int .i64 y1], .slice D.A D.n D.c] := by
    unfold vrArgs
    simp only [SV.denL]
    rw [q0.2]
    simp only [SV.den, SV.denL, E.i, nestEnv]
  rw [e] at key
  exact key
end Go.Proofs.Ytdfpenjhpemokaa.Sx
namespace Go.Proofs.Ytdfpenjhpemokaa
open Go.ChangeShapes Go.WideShapes Go.ChangeAt Go.Deep Go.RowKit in
set_option maxRecDepth 100000 in
theorem walkVoteRuns {H : Type} (W : World) (base : Nat) (enc : TypeId × Value → H) (v0 v1 : Value) {d0 d1 : DataW H} {p0 p1 : List MemPlace}
    (k0 : Value.okWide Try.prog W .any base 99 v0) (k1 : Value.okWide Try.prog W .any base 115 v1)
    (_ : DataW.Trod enc Try.prog W 0 (fun _ => true) true 99 v0 d0 p0) (h1 : DataW.Trod enc Try.prog W 0 (fun _ => true) true 115 v1 d1 p1) :
    Calls Try.prog 11 #[v0, v1] W fun e W' => e = .returned (.bool true) ∧ Below W.heap.size W W' := by
  obtain ⟨cs0, rfl, hf0⟩ := flat_open [3, 3] Try.underlying99 (by kernel_rfl) (by kernel_rfl) k0
  obtain ⟨c0, cs1, rfl, hc0, hf1⟩ := okCells_cons hf0
  obtain ⟨y0, rfl, e0⟩ := cell_int Try.underlying3 hc0
  obtain ⟨c1, cs2, rfl, hc1, hf2⟩ := okCells_cons hf1
  obtain ⟨y1, rfl, e1⟩ := cell_int Try.underlying3 hc1
  obtain rfl := okCells_nil hf2
  obtain ⟨D, rfl, hD⟩ := Sx.nest_open [false, true] (by decide) Try.underlying115 Try.underlying100 (by kernel_rfl) (by kernel_rfl) (by kernel_rfl) k1 h1
  exact Sx.vr_true y0 y1 e0 e1 D W hD
end Go.Proofs.Ytdfpenjhpemokaa
