/-
  The law VoteSays.
-/
import Derived.Test.YtdfpenjhpemokaaVoteRun
import Derived.Test.YtdfpenjhpemokaaVoteParts
import Derived.Test.YtdfpenjhpemokaaOpen2
set_option linter.unusedVariables false
set_option linter.unusedSimpArgs false
namespace Go.Proofs.Ytdfpenjhpemokaa.Sx
open Go.RowKit

theorem vote_all (ρ : Env) (hv : allV ρ voteDefs3) : voteRes3.b ρ = true := by
  have h := saysL_of hv
  rw [vote_says3] at h
  rw [vote_res3]
  obtain ⟨g0, g1, g2, g3, g4, g5, g6, g7, g8, g9, g10, g11, g12, g13, g14, g15, g16, g17, g18, g19, g20, g21, g22, g23, g24, g25, g26, g27, g28, g29, g30, g31, g32, g33, g34, g35, g36, g37, g38, g39, g40, g41, g42, g43, g44, g45, g46, g47, g48, g49, g50, g51, g52, g53, g54, g55, g56, g57, g58, g59, g60, g61, g62, g63, g64, g65, g66, g67, g68, g69, g70, g71, g72, g73, g74, g75, g76, g77, g78, g79, g80, g81, g82, g83, g84, g85, g86, g87, g88, g89, g90, g91, g92, g93, g94, g95, g96, _⟩ := h
  have r0 := vote_p0 (y32 := ρ.iv 2085014859941422627) (y1 := ρ.iv 57963261312964996) g0 g31
  have r1 := vote_p1 (y33 := ρ.iv 676017367341222554) (q2 := ρ.bv 577237888545560971) g1 g32
  have r2 := vote_p2 (y36 := ρ.iv 2092153649274546579) (y12 := ρ.iv 2008355435813352908) g0 g1 g2 g4 g5 g7 g8 g10 g11 g31 g32 g33 g34 g35
  have r12 := vote_p12 (p2 := ρ.bv 2) (y96 := ρ.iv 1542857636119869608) (y97 := ρ.iv 1425374345805272208) g95 g96
  have t0 := vote_v0 (y12 := ρ.iv 2008355435813352908) (x0 := ρ.iv 0) g0 g1 g2 g4 g5 g7 g8 g10 g11
  have t1 := vote_v1 (y12 := ρ.iv 2008355435813352908) (x1 := ρ.iv 1) g0 g1 g2 g4 g5 g7 g8 g10 g11
  have t2 := vote_v2 (y12 := ρ.iv 2008355435813352908) (x2 := ρ.iv 2) g0 g1 g2 g4 g5 g7 g8 g10 g11
  have t3 := vote_v3 (y12 := ρ.iv 2008355435813352908) (x3 := ρ.iv 3) g0 g1 g2 g4 g5 g7 g8 g10 g11
  have t4 := vote_v4 (y12 := ρ.iv 2008355435813352908) (x4 := ρ.iv 4) g0 g1 g2 g4 g5 g7 g8 g10 g11
  have t5 := vote_v5 (y12 := ρ.iv 2008355435813352908) (x5 := ρ.iv 5) g0 g1 g2 g4 g5 g7 g8 g10 g11
  have t6 := vote_v6 (y12 := ρ.iv 2008355435813352908) (p3 := ρ.bv 3) (x6 := ρ.iv 6) g0 g1 g2 g4 g5 g7 g8 g10 g11
  have t7 := vote_v7 (y12 := ρ.iv 2008355435813352908) (p4 := ρ.bv 4) (x7 := ρ.iv 7) g0 g1 g2 g4 g5 g7 g8 g10 g11
  have t8 := vote_v8 (y12 := ρ.iv 2008355435813352908) (p5 := ρ.bv 5) (x8 := ρ.iv 8) g0 g1 g2 g4 g5 g7 g8 g10 g11
  by_cases hz : ρ.iv 2008355435813352908 = 0
  · have he : ρ.iv 2092153649274546579 = 0 := by
      rw [hz] at r2
      simp only [decide_eq_true_eq, Bool.not_eq_true', decide_eq_false_iff_not] at r2
      by_cases h0 : ρ.iv 2092153649274546579 = 0
      · exact h0
      · rw [if_pos h0] at r2; exact r2
    simp only [hz, Bool.and_eq_true, Bool.or_eq_true, Bool.not_eq_true', decide_eq_true_eq, decide_true, Bool.true_eq_false, false_or] at t0 t1 t2 t3 t4 t5 t6 t7 t8
    obtain ⟨v0, v1⟩ := t0
    obtain ⟨v2, v3⟩ := t1
    obtain ⟨v4, v5⟩ := t2
    obtain ⟨v6, v7⟩ := t3
    obtain ⟨v8, v9⟩ := t4
    obtain ⟨v10, v11⟩ := t5
    have v12 : ρ.bv 3 = true → -1000000 ≤ ρ.iv 6 ∧ ρ.iv 6 ≤ 1000000 := fun h => t6.elim (fun c => by rw [h] at c; cases c) id
    have v13 : ρ.bv 4 = true → -1000000 ≤ ρ.iv 7 ∧ ρ.iv 7 ≤ 1000000 := fun h => t7.elim (fun c => by rw [h] at c; cases c) id
    have v14 : ρ.bv 5 = true → -1000000 ≤ ρ.iv 8 ∧ ρ.iv 8 ≤ 1000000 := fun h => t8.elim (fun c => by rw [h] at c; cases c) id
    have r3 := vote_p3 (y36 := ρ.iv 2092153649274546579) (y87 := ρ.iv 5506778281031641) (y12 := ρ.iv 2008355435813352908) (p0 := ρ.bv 0) (x0 := ρ.iv 0) (y25 := ρ.iv 1032490488294196577) g13 g14 g15 g16 g17 g18 g19 g20 g21 g22 g23 g24 g36 g37 g38 g45 g46 g51 g52 g57 g62 g63 g68 g73 g78 g86 hz he v0 v1 v2 v3 v4 v5 v6 v7 v8 v9 v10 v11 v12 v13 v14
    have r4 := vote_p4 (y36 := ρ.iv 2092153649274546579) (y88 := ρ.iv 294771617888036785) (y12 := ρ.iv 2008355435813352908) (p1 := ρ.bv 1) (x1 := ρ.iv 1) (y27 := ρ.iv 1666648766825577859) g13 g14 g15 g16 g17 g18 g19 g20 g21 g22 g23 g26 g39 g40 g41 g47 g48 g53 g54 g58 g64 g65 g70 g75 g80 g87 hz he v0 v1 v2 v3 v4 v5 v6 v7 v8 v9 v10 v11 v12 v13 v14
    have r5 := vote_p5 (y36 := ρ.iv 2092153649274546579) (y89 := ρ.iv 584036457495041929) (y12 := ρ.iv 2008355435813352908) (p2 := ρ.bv 2) (x2 := ρ.iv 2) (y29 := ρ.iv 2300807045356959141) g13 g14 g15 g16 g17 g18 g19 g20 g21 g22 g23 g28 g42 g43 g44 g49 g50 g55 g56 g60 g66 g67 g71 g77 g82 g88 hz he v0 v1 v2 v3 v4 v5 v6 v7 v8 v9 v10 v11 v12 v13 v14
    have r6 := vote_p6 (y36 := ρ.iv 2092153649274546579) (q90 := ρ.bv 2154229923920997196) (y12 := ρ.iv 2008355435813352908) (p0 := ρ.bv 0) (q26 := ρ.bv 446146617905828780) g13 g14 g15 g16 g17 g18 g19 g20 g21 g22 g23 g25 g36 g37 g45 g51 g62 g69 g74 g79 g89 hz he v0 v1 v2 v3 v4 v5 v6 v7 v8 v9 v10 v11 v12 v13 v14
    have r7 := vote_p7 (y36 := ρ.iv 2092153649274546579) (q91 := ρ.bv 907284857756951160) (y12 := ρ.iv 2008355435813352908) (p1 := ρ.bv 1) (q28 := ρ.bv 2163568728613733587) g13 g14 g15 g16 g17 g18 g19 g20 g21 g22 g23 g27 g39 g40 g47 g53 g59 g64 g76 g81 g90 hz he v0 v1 v2 v3 v4 v5 v6 v7 v8 v9 v10 v11 v12 v13 v14
    have r8 := vote_p8 (y36 := ρ.iv 2092153649274546579) (q92 := ρ.bv 1966182800806599075) (y12 := ρ.iv 2008355435813352908) (p2 := ρ.bv 2) (q30 := ρ.bv 1575147830107944443) g13 g14 g15 g16 g17 g18 g19 g20 g21 g22 g23 g29 g42 g43 g49 g55 g61 g66 g72 g83 g91 hz he v0 v1 v2 v3 v4 v5 v6 v7 v8 v9 v10 v11 v12 v13 v14
    have r9 := vote_p9 (y36 := ρ.iv 2092153649274546579) (y85 := ρ.iv 1658058997566636498) (y12 := ρ.iv 2008355435813352908) (y24 := ρ.iv 37288707898173385) g13 g14 g15 g16 g17 g18 g19 g20 g21 g22 g23 g84 hz he v0 v1 v2 v3 v4 v5 v6 v7 v8 v9 v10 v11 v12 v13 v14
    have r10 := vote_p10 (y36 := ρ.iv 2092153649274546579) (y85 := ρ.iv 1658058997566636498) (y12 := ρ.iv 2008355435813352908) (y24 := ρ.iv 37288707898173385) g13 g14 g15 g16 g17 g18 g19 g20 g21 g22 g23 g84 hz he v0 v1 v2 v3 v4 v5 v6 v7 v8 v9 v10 v11 v12 v13 v14
    have r11 := vote_p11 (y36 := ρ.iv 2092153649274546579) (y86 := ρ.iv 409999163148169414) (y31 := ρ.iv 882138775139632720) g14 g30 g85 hz he v0 v1 v2 v3 v4 v5 v6 v7 v8 v9 v10 v11 v12 v13 v14
    exact (and_i (g94.trans (and_i (and_i (and_i (and_i r0 r1) r2) (g92.trans (and_i (and_i r3 (and_i r4 r5)) (and_i (and_i r6 (and_i r7 r8)) r9)))) (g93.trans (and_i r9 r11)))) r12)
  · have he : ¬ ρ.iv 2092153649274546579 = 0 := by
      intro h0
      rw [h0] at r2
      simp at r2
      exact hz r2.symm
    have r3 := vote_n3 (y36 := ρ.iv 2092153649274546579) (y87 := ρ.iv 5506778281031641) (y12 := ρ.iv 2008355435813352908) (p0 := ρ.bv 0) (x0 := ρ.iv 0) (y25 := ρ.iv 1032490488294196577)  hz he
    have r4 := vote_n4 (y36 := ρ.iv 2092153649274546579) (y88 := ρ.iv 294771617888036785) (y12 := ρ.iv 2008355435813352908) (p1 := ρ.bv 1) (x1 := ρ.iv 1) (y27 := ρ.iv 1666648766825577859)  hz he
    have r5 := vote_n5 (y36 := ρ.iv 2092153649274546579) (y89 := ρ.iv 584036457495041929) (y12 := ρ.iv 2008355435813352908) (p2 := ρ.bv 2) (x2 := ρ.iv 2) (y29 := ρ.iv 2300807045356959141)  hz he
    have r6 := vote_n6 (y36 := ρ.iv 2092153649274546579) (q90 := ρ.bv 2154229923920997196) (y12 := ρ.iv 2008355435813352908) (p0 := ρ.bv 0) (q26 := ρ.bv 446146617905828780)  hz he
    have r7 := vote_n7 (y36 := ρ.iv 2092153649274546579) (q91 := ρ.bv 907284857756951160) (y12 := ρ.iv 2008355435813352908) (p1 := ρ.bv 1) (q28 := ρ.bv 2163568728613733587)  hz he
    have r8 := vote_n8 (y36 := ρ.iv 2092153649274546579) (q92 := ρ.bv 1966182800806599075) (y12 := ρ.iv 2008355435813352908) (p2 := ρ.bv 2) (q30 := ρ.bv 1575147830107944443)  hz he
    have r9 := vote_n9 (y36 := ρ.iv 2092153649274546579) (y85 := ρ.iv 1658058997566636498) (y12 := ρ.iv 2008355435813352908) (y24 := ρ.iv 37288707898173385)  hz he
    have r10 := vote_n10 (y36 := ρ.iv 2092153649274546579) (y85 := ρ.iv 1658058997566636498) (y12 := ρ.iv 2008355435813352908) (y24 := ρ.iv 37288707898173385)  hz he
    have r11 := vote_n11 (y36 := ρ.iv 2092153649274546579) (y86 := ρ.iv 409999163148169414) (y31 := ρ.iv 882138775139632720) g30 hz he
    exact (and_i (g94.trans (and_i (and_i (and_i (and_i r0 r1) r2) (g92.trans (and_i (and_i r3 (and_i r4 r5)) (and_i (and_i r6 (and_i r7 r8)) r9)))) (g93.trans (and_i r9 r11)))) r12)

/-- What VoteSays is given, as terms. -/
structure VoteIn (ρ : Env) : Prop where
  et : ρ.et = 23
  mv : ρ.mv = fun _ => []
  mn : ρ.mn = fun _ _ => []
  i : ∀ n, n < 9 → -9223372036854775808 ≤ ρ.iv n ∧ ρ.iv n ≤ 9223372036854775807
def voteCells : List SV := [.bool (.bv 3), .int .i64 ⟨(.v 6), (-9223372036854775808), 9223372036854775807⟩, .bool (.bv 4), .int .i64 ⟨(.v 7), (-9223372036854775808), 9223372036854775807⟩, .bool (.bv 5), .int .i64 ⟨(.v 8), (-9223372036854775808), 9223372036854775807⟩]
def voteBank : SV := .agg [.int .i64 ⟨(.v 0), (-9223372036854775808), 9223372036854775807⟩, .int .i64 ⟨(.v 1), (-9223372036854775808), 9223372036854775807⟩, .int .i64 ⟨(.v 2), (-9223372036854775808), 9223372036854775807⟩, .bool (.bv 0), .bool (.bv 1), .bool (.bv 2), .int .i64 ⟨(.v 3), (-9223372036854775808), 9223372036854775807⟩]
def voteRule : SV := .agg [.int .i64 ⟨(.v 4), (-9223372036854775808), 9223372036854775807⟩, .int .i64 ⟨(.v 5), (-9223372036854775808), 9223372036854775807⟩]
theorem voteCells_ok {ρ : Env} (h : VoteIn ρ) (N : Nat → Prop) : (SV.agg voteCells).ok ρ N := by
  simp only [voteCells, SV.ok, SV.okL, R.ok, E.i, and_true, true_and]
  exact ⟨h.i 6 (by omega), h.i 7 (by omega), h.i 8 (by omega)⟩
theorem voteBank_ok {ρ : Env} (h : VoteIn ρ) (N : Nat → Prop) : voteBank.ok ρ N := by
  simp only [voteBank, SV.ok, SV.okL, R.ok, E.i, and_true, true_and]
  exact ⟨h.i 0 (by omega), h.i 1 (by omega), h.i 2 (by omega), h.i 3 (by omega)⟩
theorem voteRule_ok {ρ : Env} (h : VoteIn ρ) (N : Nat → Prop) : voteRule.ok ρ N := by
  simp only [voteRule, SV.ok, SV.okL, R.ok, E.i, and_true, true_and]
  exact ⟨h.i 4 (by omega), h.i 5 (by omega)⟩
/-- The samples of a list, by the run of the function that takes them. -/
theorem voteSum {ρ : Env} (h : VoteIn ρ) {a : SV} {H : List (Nat × HEnt)} {v : SV} (hf : farOnly 1 [a] H = true) (hr : chkV (callN Try.prog 23 (cfgK noSum voteKeeps 50 12) (runDraw Try.prog 23) 20 [] 69 [a] H 1) v = true)
    (hd : ∀ b, v.den ρ b = (SV.agg voteCells).den ρ b) (hn : ∀ b b', (SV.agg voteCells).den ρ b = (SV.agg voteCells).den ρ b') : HOK Try.prog ρ (oneSum 69 [a] H (.agg voteCells)) := by
  obtain ⟨c, hc, hv⟩ := chkV_ok hr
  refine oneSum_ok 1 hf (voteCells_ok h) fun b w hH hm ha => ?_
  refine (run_fn h.et (noSum_ok _ _) hc (fun v hv => by cases hv) b w hH ha hm).mono ?_
  rintro e w' ⟨⟨b', h1, _⟩, h2⟩
  refine ⟨?_, h2⟩
  rw [h1, hv, hd b', hn b' b]
theorem vote_fin {ρ0 : Env} (h0 : VoteIn ρ0) {a : SV} {H : List (Nat × HEnt)} {v : SV} (hf : farOnly 1 [a] H = true)
    (hr : chkV (callN Try.prog 23 (cfgK noSum voteKeeps 50 12) (runDraw Try.prog 23) 20 [] 69 [a] H 1) v = true)
    (hrun : chk (callN Try.prog 23 (cfgK (oneSum 69 [a] H (.agg voteCells)) voteKeeps 50 12) (runDraw Try.prog 23) 20 [] 10 [voteBank, voteRule, a] H 1) voteRes3 voteDefs3 = true)
    (hd : ∀ ρ, Same ρ0 ρ [] [] → ∀ b, v.den ρ b = (SV.agg voteCells).den ρ b) (b : Bd) (w : World)
    (hH : ∀ ρ, Same ρ0 ρ [] [] → HRel ρ b (· < w.heap.size) w H (· < 1)) (ha : ∀ ρ, Same ρ0 ρ [] [] → a.ok ρ (· < 1)) (hden : ∀ ρ, Same ρ0 ρ [] [] → a.den ρ b = a.den ρ0 b) :
    Calls Try.prog 10 #[voteBank.den ρ0 b, voteRule.den ρ0 b, a.den ρ0 b] w fun e w' => e = .returned (.bool true) ∧ Below w.heap.size w w' := by
  obtain ⟨ρ, hS, hall⟩ := defs_env vote_defs3 ρ0
  have hin : VoteIn ρ := ⟨hS.et.trans h0.et, hS.mv.trans h0.mv, hS.mn.trans h0.mn, fun n hn => by rw [hS.iv n (.inl (by unfold base0; omega))]; exact h0.i n hn⟩
  obtain ⟨c, vs, h1, h2, h3⟩ := chk_ok hrun
  have hn : ∀ b b', (SV.agg voteCells).den ρ b = (SV.agg voteCells).den ρ b' := fun b b' => rfl
  have key := run_true (b := b) hin.et (cfg := cfgK (oneSum 69 [a] H (.agg voteCells)) voteKeeps 50 12) (voteSum hin hf hr (hd ρ hS) hn) h1 (h3 ρ hall) h2 (vote_all ρ hall) w (hH ρ hS) ⟨voteBank_ok hin _, voteRule_ok hin _, ha ρ hS, trivial⟩ (Mem.none hin.mv hin.mn)
  have e1 : voteBank.den ρ b = voteBank.den ρ0 b := by
    simp only [voteBank, SV.den, SV.denL, E.i, E.b]
    rw [hS.iv 0 (.inl (by decide)), hS.iv 1 (.inl (by decide)), hS.iv 2 (.inl (by decide)), hS.iv 3 (.inl (by decide)), hS.bv 0 (.inl (by decide)), hS.bv 1 (.inl (by decide)), hS.bv 2 (.inl (by decide))]
  have e2 : voteRule.den ρ b = voteRule.den ρ0 b := by
    simp only [voteRule, SV.den, SV.denL, E.i]
    rw [hS.iv 4 (.inl (by decide)), hS.iv 5 (.inl (by decide))]
  have e3 : (SV.denL ρ b [voteBank, voteRule, a]).toArray = #[voteBank.den ρ0 b, voteRule.den ρ0 b, a.den ρ0 b] := by
    simp only [SV.denL, e1, e2, hden ρ hS]
  rw [e3] at key
  exact key
end Go.Proofs.Ytdfpenjhpemokaa.Sx
