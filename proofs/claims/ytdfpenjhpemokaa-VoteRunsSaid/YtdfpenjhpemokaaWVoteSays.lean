/-
  The law VoteSays walked.
-/
import Derived.Test.YtdfpenjhpemokaaVoteFin
set_option linter.unusedVariables false
set_option linter.unusedSimpArgs false
namespace Go.Proofs.Ytdfpenjhpemokaa
open Go.RowKit Sx

/-- A list's samples, as they lie. -/
def SampRow (w : World) (A : Option Addr) (n : Nat) (t : Nat → Bool) (x : Nat → Int) : Prop :=
  (∀ k, k < n → ∃ b off, A = some ⟨b, off, none⟩ ∧ b < w.heap.size ∧ w.cell? ⟨b, off + k * 2, none⟩ = some (.bool (t k)) ∧ w.cell? ⟨b, off + k * 2 + 1, none⟩ = some (.int .i64 (x k))) ∧ ∀ k, n ≤ k → t k = false ∧ x k = 0
theorem far_rel {ρ : Env} {b : Bd} {w : World} {cs : List SV} {ty : TypeId} (hb : b.β 0 < w.heap.size) (hc : ∀ (i : Nat) (v : SV), cs[i]? = some v → w.cell? ⟨b.β 0, b.o 0 + i, none⟩ = some (v.den ρ b)) (hok : SV.okL ρ (· < 1) cs) :
    HRel ρ b (· < w.heap.size) w [(0, ⟨[], ⟨cs, ty, .far⟩⟩)] (· < 1) where
  mem := fun n e hf hg => by
    simp only [find] at hf
    split at hf
    · rename_i h0
      subst h0
      cases hf
      exact ⟨Nat.zero_lt_one, ⟨hb, hc⟩, hok⟩
    · cases hf
  inj := fun n m e k hf hk hg hgk ho hok heq => by
    simp only [find] at hf
    split at hf
    · cases hf; cases ho
    · cases hf
def voteEnv (y0 y1 y2 last limit confirm : Int) (o0 o1 o2 : Bool) (t : Nat → Bool) (x : Nat → Int) (A : Option Addr) (n c : Nat) : Env :=
  ⟨fun k => match k with | 0 => y0 | 1 => y1 | 2 => y2 | 3 => last | 4 => limit | 5 => confirm | 6 => x 0 | 7 => x 1 | 8 => x 2 | 9 => n | _ => 0,
   fun k => match k with | 0 => o0 | 1 => o1 | 2 => o2 | 3 => t 0 | 4 => t 1 | 5 => t 2 | _ => false,
   fun _ _ => 0, fun _ _ => false, 23, fun _ => (A, c), fun _ _ => [], fun _ => [], fun _ _ => (none, 0, 0), fun _ _ => [], fun _ => 0⟩
theorem vote_fin' {ρ0 : Env} (h0 : VoteIn ρ0) {a : SV} {H : List (Nat × HEnt)} {v : SV} (hf : farOnly 1 [a] H = true)
    (hr : chkV (callN Try.prog 23 (cfgK noSum voteKeeps 50 12) (runDraw Try.prog 23) 20 [] 69 [a] H 1) v = true)
    (hrun : chk (callN Try.prog 23 (cfgK (oneSum 69 [a] H (.agg voteCells)) voteKeeps 50 12) (runDraw Try.prog 23) 20 [] 10 [voteBank, voteRule, a] H 1) voteRes3 voteDefs3 = true)
    (hd : ∀ ρ, Same ρ0 ρ [] [] → ∀ b, v.den ρ b = (SV.agg voteCells).den ρ b) (b : Bd) (w : World)
    (hH : ∀ ρ, Same ρ0 ρ [] [] → HRel ρ b (· < w.heap.size) w H (· < 1)) (ha : ∀ ρ, Same ρ0 ρ [] [] → a.ok ρ (· < 1)) (hden : ∀ ρ, Same ρ0 ρ [] [] → a.den ρ b = a.den ρ0 b)
    {y0 y1 y2 last limit confirm : Int} {o0 o1 o2 : Bool} {va : Value} (q0 : ρ0.iv 0 = y0) (q1 : ρ0.iv 1 = y1) (q2 : ρ0.iv 2 = y2) (q3 : ρ0.iv 3 = last) (q4 : ρ0.iv 4 = limit) (q5 : ρ0.iv 5 = confirm) (p0 : ρ0.bv 0 = o0) (p1 : ρ0.bv 1 = o1) (p2 : ρ0.bv 2 = o2) (hva : a.den ρ0 b = va) :
    Calls Try.prog 10 #[.agg #[.int .i64 y0, .int .i64 y1, .int .i64 y2, .bool o0, .bool o1, .bool o2, .int .i64 last], .agg #[.int .i64 limit, .int .i64 confirm], va] w fun e w' => e = .returned (.bool true) ∧ Below w.heap.size w w' := by
  have key := vote_fin h0 hf hr hrun hd b w hH ha hden
  have e1 : voteBank.den ρ0 b = .agg #[.int .i64 y0, .int .i64 y1, .int .i64 y2, .bool o0, .bool o1, .bool o2, .int .i64 last] := by
    simp only [voteBank, SV.den, SV.denL, E.i, E.b, q0, q1, q2, q3, p0, p1, p2]
  have e2 : voteRule.den ρ0 b = .agg #[.int .i64 limit, .int .i64 confirm] := by
    simp only [voteRule, SV.den, SV.denL, E.i, q4, q5]
  rw [e1, e2, hva] at key
  exact key
set_option maxHeartbeats 1000000 in
set_option maxRecDepth 100000 in
theorem VoteSays_all (y0 y1 y2 last limit confirm : Int) (o0 o1 o2 : Bool) (A : Option Addr) (n c : Nat) (t : Nat → Bool) (x : Nat → Int) (w : World) (hn : n ≤ 9223372036854775807) (HS : SampRow w A n t x)
    (b0 : B64 y0) (b1 : B64 y1) (b2 : B64 y2) (b3 : B64 last) (b4 : B64 limit) (b5 : B64 confirm) (bx : ∀ i, B64 (x i)) :
    Calls Try.prog 10 #[.agg #[.int .i64 y0, .int .i64 y1, .int .i64 y2, .bool o0, .bool o1, .bool o2, .int .i64 last], .agg #[.int .i64 limit, .int .i64 confirm], .slice A n c] w fun e w' => e = .returned (.bool true) ∧ Below w.heap.size w w' := by
  have hin : VoteIn (voteEnv y0 y1 y2 last limit confirm o0 o1 o2 t x A n c) := by
    refine ⟨rfl, rfl, rfl, fun k hk => ?_⟩
    match k, hk with
    | 0, _ => exact b0
    | 1, _ => exact b1
    | 2, _ => exact b2
    | 3, _ => exact b3
    | 4, _ => exact b4
    | 5, _ => exact b5
    | 6, _ => exact bx 0
    | 7, _ => exact bx 1
    | 8, _ => exact bx 2
  have hbv : ∀ ρ, Same (voteEnv y0 y1 y2 last limit confirm o0 o1 o2 t x A n c) ρ [] [] → ρ.bv 3 = t 0 ∧ ρ.bv 4 = t 1 ∧ ρ.bv 5 = t 2 ∧ ρ.iv 6 = x 0 ∧ ρ.iv 7 = x 1 ∧ ρ.iv 8 = x 2 ∧ ρ.iv 9 = n ∧ ρ.ov 0 = (A, c) := fun ρ hS =>
    ⟨hS.bv 3 (.inl (by decide)), hS.bv 4 (.inl (by decide)), hS.bv 5 (.inl (by decide)), hS.iv 6 (.inl (by decide)), hS.iv 7 (.inl (by decide)), hS.iv 8 (.inl (by decide)), hS.iv 9 (.inl (by decide)), by rw [hS.ov]; rfl⟩
  by_cases h0 : n = 0
  · subst h0
    obtain ⟨t0, x0⟩ := HS.2 0 (by omega)
    obtain ⟨t1, x1⟩ := HS.2 1 (by omega)
    obtain ⟨t2, x2⟩ := HS.2 2 (by omega)
    exact vote_fin' hin (a := .emp 0) (H := []) (by kernel_rfl) vote_samp0 vote_run0 (fun ρ hS b => by
        obtain ⟨r1, r2, r3, r4, r5, r6, r7, r8⟩ := hbv ρ hS
        simp only [voteCells, SV.den, SV.denL, E.i, E.b, r1, r2, r3, r4, r5, r6, t0, t1, t2, x0, x1, x2])
      ⟨fun _ => 0, fun _ => 0, fun _ => 0⟩ w (fun ρ _ => ⟨fun n e hf => (by cases hf), fun n m e k hf => (by cases hf)⟩) (fun _ _ => trivial) (fun ρ hS => by simp only [SV.den, hS.ov]) rfl rfl rfl rfl rfl rfl rfl rfl rfl (by simp only [SV.den]; rfl)
  obtain ⟨bl, off, rfl, hb, hc0⟩ := HS.1 0 (by omega)
  have hcell : ∀ k, k < n → w.cell? ⟨bl, off + k * 2, none⟩ = some (.bool (t k)) ∧ w.cell? ⟨bl, off + k * 2 + 1, none⟩ = some (.int .i64 (x k)) := by
    intro k hk
    obtain ⟨b', off', he, _, hc⟩ := HS.1 k hk
    cases he
    exact hc
  have hok : ∀ ρ, Same (voteEnv y0 y1 y2 last limit confirm o0 o1 o2 t x (some ⟨bl, off, none⟩) n c) ρ [] [] → ∀ m, SV.okL ρ (· < 1) (voteCells.take m) := by
    intro ρ hS m
    have h1 : VoteIn ρ := ⟨hS.et.trans rfl, hS.mv.trans rfl, hS.mn.trans rfl, fun k hk => by rw [hS.iv k (.inl (by unfold base0; omega))]; exact hin.i k hk⟩
    have h2 : SV.okL ρ (· < 1) voteCells := voteCells_ok h1 _
    exact (okL_all _ _ _).2 fun v hv => (okL_all _ _ _).1 h2 v (List.mem_of_mem_take hv)
  have hrel : ∀ m, m ≤ n → m ≤ 3 → ∀ ρ, Same (voteEnv y0 y1 y2 last limit confirm o0 o1 o2 t x (some ⟨bl, off, none⟩) n c) ρ [] [] → HRel ρ ⟨fun _ => bl, fun _ => off, fun _ => c⟩ (· < w.heap.size) w [(0, ⟨[], ⟨voteCells.take (2 * m), 57, .far⟩⟩)] (· < 1) := by
    intro m hm hm3 ρ hS
    obtain ⟨r1, r2, r3, r4, r5, r6, r7, r8⟩ := hbv ρ hS
    refine far_rel hb (fun i v hi => ?_) (hok ρ hS _)
    rw [List.getElem?_take] at hi
    split at hi
    · rename_i hlt
      match i, hlt, hi with
      | 0, hl, hi => cases hi; simp only [SV.den, E.b, r1]; exact (hcell 0 (by omega)).1
      | 1, hl, hi => cases hi; simp only [SV.den, E.i, r4]; exact (hcell 0 (by omega)).2
      | 2, hl, hi => cases hi; simp only [SV.den, E.b, r2]; exact (hcell 1 (by omega)).1
      | 3, hl, hi => cases hi; simp only [SV.den, E.i, r5]; exact (hcell 1 (by omega)).2
      | 4, hl, hi => cases hi; simp only [SV.den, E.b, r3]; exact (hcell 2 (by omega)).1
      | 5, hl, hi => cases hi; simp only [SV.den, E.i, r6]; exact (hcell 2 (by omega)).2
      | k + 6, hl, hi => omega
    · cases hi
  by_cases h1 : n = 1
  · subst h1
    obtain ⟨t1, x1⟩ := HS.2 1 (by omega)
    obtain ⟨t2, x2⟩ := HS.2 2 (by omega)
    exact vote_fin' hin (a := .sl 0 0 1 none) (by kernel_rfl) vote_samp1 vote_run1 (fun ρ hS b => by
        obtain ⟨r1, r2, r3, r4, r5, r6, r7, r8⟩ := hbv ρ hS
        simp only [voteCells, SV.den, SV.denL, E.i, E.b, r1, r2, r3, r4, r5, r6, t1, t2, x1, x2])
      ⟨fun _ => bl, fun _ => off, fun _ => c⟩ w (hrel 1 (by omega) (by omega)) (fun _ _ => Nat.zero_lt_one) (fun ρ hS => by simp only [SV.den]) rfl rfl rfl rfl rfl rfl rfl rfl rfl (by simp only [SV.den]; rfl)
  by_cases h2 : n = 2
  · subst h2
    obtain ⟨t2, x2⟩ := HS.2 2 (by omega)
    exact vote_fin' hin (a := .sl 0 0 2 none) (by kernel_rfl) vote_samp2 vote_run2 (fun ρ hS b => by
        obtain ⟨r1, r2, r3, r4, r5, r6, r7, r8⟩ := hbv ρ hS
        simp only [voteCells, SV.den, SV.denL, E.i, E.b, r1, r2, r3, r4, r5, r6, t2, x2])
      ⟨fun _ => bl, fun _ => off, fun _ => c⟩ w (hrel 2 (by omega) (by omega)) (fun _ _ => Nat.zero_lt_one) (fun ρ hS => by simp only [SV.den]) rfl rfl rfl rfl rfl rfl rfl rfl rfl (by simp only [SV.den]; rfl)
  · exact vote_fin' hin (a := .slv 0 0 ⟨.v 9, 3, 9223372036854775807⟩) (by kernel_rfl) vote_samp3 vote_run3 (fun ρ hS b => rfl)
      ⟨fun _ => bl, fun _ => off, fun _ => c⟩ w (hrel 3 (by omega) (by omega)) (fun ρ hS => by
        obtain ⟨r1, r2, r3, r4, r5, r6, r7, r8⟩ := hbv ρ hS
        refine ⟨Nat.zero_lt_one, ⟨?_, ?_⟩, by decide⟩ <;> simp only [E.i, r7] <;> omega) (fun ρ hS => by
        obtain ⟨r1, r2, r3, r4, r5, r6, r7, r8⟩ := hbv ρ hS
        simp only [SV.den, E.i, r7]
        rfl) rfl rfl rfl rfl rfl rfl rfl rfl rfl (by simp only [SV.den, E.i]; rfl)

open Go.ChangeShapes Go.WideShapes Go.ChangeAt Go.Deep in
set_option maxRecDepth 100000 in
/-- A slice of samples among the arguments: they lie in its cells. -/
theorem samples_open {H : Type} {enc : TypeId × Value → H} {w : World} {base : Nat} {spare : Nat → Bool} {held : Bool} {v : Value} {d : DataW H} {p : List MemPlace}
    {r : Reach} {b0 : Nat} (hv : Value.okWide Try.prog w r b0 100 v) (h : DataW.Trod enc Try.prog w base spare held 100 v d p) :
    ∃ A n c t x, v = .slice A n c ∧ n ≤ 9223372036854775807 ∧ SampRow w A n t x ∧ ∀ i, B64 (x i) := by
  obtain ⟨A, n, c, rfl, hnc, hcm, hs⟩ := slice_elems 2 (fun cs => ∃ (a : Bool) (b : Int), cs[0]? = some (.bool a) ∧ cs[1]? = some (.int .i64 b) ∧ B64 b) Try.underlying100 (by kernel_rfl) (by omega)
    (fun n cs x h => by
      have h0 := trod_field Try.underlying57 (by kernel_rfl) h (i := 0) rfl (.inr Try.underlying4)
      have h1 := trod_field Try.underlying57 (by kernel_rfl) h (i := 1) rfl (.inl Try.underlying3)
      obtain ⟨a, ha⟩ := h0.2 Try.underlying4
      obtain ⟨b, hb, hbb⟩ := h1.1 Try.underlying3
      exact ⟨a, b, ha, hb, hbb⟩) hv h
  unfold maxLen at hcm
  rcases hs with rfl | ⟨b, off, rfl, hb, hcell⟩
  · exact ⟨A, 0, c, fun _ => false, fun _ => 0, rfl, by omega, ⟨fun k hk => absurd hk (Nat.not_lt_zero k), fun _ _ => ⟨rfl, rfl⟩⟩, fun _ => (⟨by decide, by decide⟩ : B64 0)⟩
  · have hf : ∀ i, ∃ f : Bool × Int, (i < n → w.cell? ⟨b, off + i * 2, none⟩ = some (.bool f.1) ∧ w.cell? ⟨b, off + i * 2 + 1, none⟩ = some (.int .i64 f.2)) ∧ (n ≤ i → f.1 = false ∧ f.2 = 0) ∧ B64 f.2 := by
      intro i
      by_cases hi : i < n
      · obtain ⟨cs, _, ⟨a, b', ha, hb', hbb⟩, hc⟩ := hcell i hi
        exact ⟨(a, b'), fun _ => ⟨(hc 0 (by omega)).trans ha, (hc 1 (by omega)).trans hb'⟩, fun h => absurd h (by omega), hbb⟩
      · exact ⟨(false, 0), fun h => absurd h hi, fun _ => ⟨rfl, rfl⟩, (⟨by decide, by decide⟩ : B64 0)⟩
    obtain ⟨f, hf⟩ := Classical.axiomOfChoice hf
    exact ⟨_, n, c, fun i => (f i).1, fun i => (f i).2, rfl, by omega, ⟨fun k hk => ⟨b, off, rfl, hb, (hf k).1 hk⟩, fun k hk => (hf k).2.1 hk⟩, fun i => (hf i).2.2⟩

open Go.ChangeShapes Go.WideShapes Go.ChangeAt in
set_option maxRecDepth 100000 in
theorem walkVoteSays {H : Type} (W : World) (base : Nat) (enc : TypeId × Value → H) (v0 v1 v2 : Value) {d0 d1 d2 : DataW H} {p0 p1 p2 : List MemPlace}
    (k0 : Value.okWide Try.prog W .any base 97 v0) (k1 : Value.okWide Try.prog W .any base 99 v1) (k2 : Value.okWide Try.prog W .any base 100 v2)
    (_ : DataW.Trod enc Try.prog W 0 (fun _ => true) true 97 v0 d0 p0) (_ : DataW.Trod enc Try.prog W 0 (fun _ => true) true 99 v1 d1 p1) (h2 : DataW.Trod enc Try.prog W 0 (fun _ => true) true 100 v2 d2 p2) :
    Calls Try.prog 10 #[v0, v1, v2] W fun e W' => e = .returned (.bool true) ∧ Below W.heap.size W W' := by
  obtain ⟨cs0, rfl, hf0⟩ := flat_open [3, 3, 3, 4, 4, 4, 3] Try.underlying97 (by kernel_rfl) (by kernel_rfl) k0
  obtain ⟨c0, cs1, rfl, hc0, hf1⟩ := okCells_cons hf0
  obtain ⟨y0, rfl, e0⟩ := cell_int Try.underlying3 hc0
  obtain ⟨c1, cs2, rfl, hc1, hf2⟩ := okCells_cons hf1
  obtain ⟨y1, rfl, e1⟩ := cell_int Try.underlying3 hc1
  obtain ⟨c2, cs3, rfl, hc2, hf3⟩ := okCells_cons hf2
  obtain ⟨y2, rfl, e2⟩ := cell_int Try.underlying3 hc2
  obtain ⟨c3, cs4, rfl, hc3, hf4⟩ := okCells_cons hf3
  obtain ⟨y3, rfl⟩ := cell_bool Try.underlying4 hc3
  obtain ⟨c4, cs5, rfl, hc4, hf5⟩ := okCells_cons hf4
  obtain ⟨y4, rfl⟩ := cell_bool Try.underlying4 hc4
  obtain ⟨c5, cs6, rfl, hc5, hf6⟩ := okCells_cons hf5
  obtain ⟨y5, rfl⟩ := cell_bool Try.underlying4 hc5
  obtain ⟨c6, cs7, rfl, hc6, hf7⟩ := okCells_cons hf6
  obtain ⟨y6, rfl, e6⟩ := cell_int Try.underlying3 hc6
  obtain rfl := okCells_nil hf7
  obtain ⟨cs0, rfl, hf0⟩ := flat_open [3, 3] Try.underlying99 (by kernel_rfl) (by kernel_rfl) k1
  obtain ⟨c0, cs1, rfl, hc0, hf1⟩ := okCells_cons hf0
  obtain ⟨z0, rfl, f0⟩ := cell_int Try.underlying3 hc0
  obtain ⟨c1, cs2, rfl, hc1, hf2⟩ := okCells_cons hf1
  obtain ⟨z1, rfl, f1⟩ := cell_int Try.underlying3 hc1
  obtain rfl := okCells_nil hf2
  obtain ⟨A, n, c, t, x, rfl, hn, HS, bx⟩ := samples_open k2 h2
  exact VoteSays_all y0 y1 y2 y6 z0 z1 y3 y4 y5 A n c t x W hn HS e0 e1 e2 e6 f0 f1 bx
end Go.Proofs.Ytdfpenjhpemokaa
