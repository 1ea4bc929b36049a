/-
  An axis of a craft: what may be; contracts as handlers.
-/
import Derived.Test.YtdfpenjhpemokaaHoldK
import Derived.Test.YtdfpenjhpemokaaGuard5
set_option linter.unusedVariables false
set_option linter.unusedSimpArgs false
namespace Go.Proofs.Ytdfpenjhpemokaa.Sx
open Go.RowKit
/-- May an axis be? Of what its guard and its hold say. -/
def paxisG (gm : Int → Int → Int → Int → Int → Int → Int) (hr : Int → Int → Int → Int → Int → Int) (lo hi noise push surf travel rate slack limit confirm watch turn build : Int) : Int :=
  if 2 ≤ surf ∧ surf ≤ 4 ∧ 0 ≤ push ∧ push ≤ 1000 then
    if 0 ≤ limit ∧ limit ≤ 1000000 ∧ 1 ≤ confirm ∧ confirm ≤ 10 then
      if 1 ≤ travel ∧ travel ≤ 1000 ∧ 1 ≤ rate ∧ rate ≤ travel ∧ 0 ≤ slack ∧ slack ≤ travel ∧ 1 ≤ watch ∧ watch ≤ 10 then
        if gm lo hi noise (push + slack) ((surf - 1) * travel) ((surf - 1) * rate) = 0 then
          if hr lo hi turn build ((surf - 1) * travel) = 0 then (if limit < IntKind.wrap .i64 (2 * noise) ∨ 0 < lo ∨ hi < 0 then 3 else 0)
          else hr lo hi turn build ((surf - 1) * travel)
        else gm lo hi noise (push + slack) ((surf - 1) * travel) ((surf - 1) * rate)
      else 1
    else 1
  else 1
def paxis (pl : Int) (ga : Bool) (lo hi noise push surf travel rate slack limit confirm watch turn build : Int) : Int :=
  paxisG pguardMay (fun lo hi tu bu mo => phrule lo hi tu bu mo pl ga) lo hi noise push surf travel rate slack limit confirm watch turn build
theorem paxis_bd {pl : Int} {ga : Bool} (h : 0 ≤ pl ∧ pl ≤ 5) (lo hi noise push surf travel rate slack limit confirm watch turn build : Int) : 0 ≤ paxis pl ga lo hi noise push surf travel rate slack limit confirm watch turn build ∧ paxis pl ga lo hi noise push surf travel rate slack limit confirm watch turn build ≤ 5 := by
  unfold paxis paxisG
  have h1 := pguardMay_b64 lo hi noise (push + slack) ((surf - 1) * travel) ((surf - 1) * rate)
  have h2 := phrule_bd (lo := lo) (hi := hi) (tu := turn) (bu := build) (mo := (surf - 1) * travel) (ga := ga) h
  dsimp only
  (repeat' split) <;> omega
theorem paxis_fine {pl : Int} {ga : Bool} {lo hi noise push surf travel rate slack limit confirm watch turn build : Int} (h : paxis pl ga lo hi noise push surf travel rate slack limit confirm watch turn build = 0) : 2 ≤ surf ∧ surf ≤ 4 := by
  unfold paxis paxisG at h
  split at h
  · rename_i c; exact ⟨c.1, c.2.1⟩
  · exact absurd h (by decide)
def gmayP (mk : R → SV) (args : List SV) : Option (List E × SV) := match args with
  | [.agg [.int .i64 r0, .int .i64 r1, .int .i64 r2, .int .i64 r3, .int .i64 r4, .int .i64 r5]] => some ([], mk ⟨.ap 10 (.cons r0.e (.cons r1.e (.cons r2.e (.cons r3.e (.cons r4.e (.cons r5.e .nil)))))), 0, 3⟩)
  | _ => none
def crF (G : Nat → GD) (id : Nat) (l : List Int) : Int := match id, l with
  | 10, [a, b, c, d, e, f] => pguardMay a b c d e f
  | 66, [lo, hi, tu, bu, mo, k, m] => phrule lo hi tu bu mo (pline (G k.toNat).f (G k.toNat).n (G m.toNat).f (G m.toNat).n) (pgain (G m.toNat).f (G m.toNat).n)
  | 70, [lo, hi, noise, push, surf, travel, rate, slack, limit, confirm, watch, turn, build, k, m] => paxis (pline (G k.toNat).f (G k.toNat).n (G m.toNat).f (G m.toNat).n) (pgain (G m.toNat).f (G m.toNat).n) lo hi noise push surf travel rate slack limit confirm watch turn build
  | _, _ => 0
section
variable {fn : (Nat → GD) → Nat → List Int → Int} {fb : (Nat → GD) → Nat → List Int → Bool} {G : Nat → GD} {ρ : Env}
theorem gmay_gen {F : FuncId} (h : Std fn fb G ρ) (h10 : ∀ a b c d e f, fn G 10 [a, b, c, d, e, f] = pguardMay a b c d e f) {mk : R → SV} {mv : Int → Value}
    (hmk : ∀ r b, (mk r).den ρ b = mv (r.e.i ρ)) (hmo : ∀ r N, r.ok ρ → (mk r).ok ρ N)
    (hc : ∀ (a b c d e f : Int) (w : World), Calls Try.prog F #[.agg #[.int .i64 a, .int .i64 b, .int .i64 c, .int .i64 d, .int .i64 e, .int .i64 f]] w fun x w' => x = .returned (mv (pguardMay a b c d e f)) ∧ Below w.heap.size w w') : HOK Try.prog ρ (argSum F (gmayP mk)) := by
  refine argSum_ok fun args gs v hp hg b base w N hok hm hbase => ?_
  unfold gmayP at hp
  split at hp
  · rename_i r0 r1 r2 r3 r4 r5
    cases hp
    have e1 : (SV.denL ρ b [.agg [.int .i64 r0, .int .i64 r1, .int .i64 r2, .int .i64 r3, .int .i64 r4, .int .i64 r5]]).toArray = #[.agg #[.int .i64 (r0.e.i ρ), .int .i64 (r1.e.i ρ), .int .i64 (r2.e.i ρ), .int .i64 (r3.e.i ρ), .int .i64 (r4.e.i ρ), .int .i64 (r5.e.i ρ)]] := by
      simp only [SV.denL, den_agg, den_int]
    rw [e1]
    refine (hc _ _ _ _ _ _ w).mono ?_
    rintro e w' ⟨h2, h3⟩
    have e2 : (E.ap 10 (.cons r0.e (.cons r1.e (.cons r2.e (.cons r3.e (.cons r4.e (.cons r5.e .nil))))))).i ρ = pguardMay (r0.e.i ρ) (r1.e.i ρ) (r2.e.i ρ) (r3.e.i ρ) (r4.e.i ρ) (r5.e.i ρ) := by
      simp only [E.i, E.l]
      rw [h.f rfl, h10]
    refine ⟨by rw [h2, hmk, e2], hmo _ _ ?_, h3⟩
    unfold R.ok
    rw [e2]
    exact pguardMay_b64 _ _ _ _ _ _
  · cases hp
theorem hrule_gen {F : FuncId} (h : Std fn fb G ρ) (h66 : ∀ lo hi tu bu mo (k m : Nat), fn G 66 [lo, hi, tu, bu, mo, k, m] = phrule lo hi tu bu mo (pline (G k).f (G k).n (G m).f (G m).n) (pgain (G m).f (G m).n)) {w0 : World} (hG : ∀ k, (G k).ok w0) (hks : ∀ k, (G k).ks = [true]) {mk : R → SV} {mv : Int → Value}
    (hmk : ∀ r b, (mk r).den ρ b = mv (r.e.i ρ)) (hmo : ∀ r N, r.ok ρ → (mk r).ok ρ N)
    (hc : ∀ (g d : GD) (lo hi tu bu mo : Int) (w : World), g.ks = [true] → d.ks = [true] → g.n ≤ 1000 → d.n ≤ 1000 → B64 lo → B64 hi → B64 tu → B64 bu → B64 mo → g.ok w → d.ok w → Calls Try.prog F #[.agg #[.int .i64 lo, .int .i64 hi, .int .i64 tu, .int .i64 bu, .int .i64 mo, .slice g.A g.n g.c, .slice d.A d.n d.c]] w fun e w' => e = .returned (mv (phrule lo hi tu bu mo (pline g.f g.n d.f d.n) (pgain d.f d.n))) ∧ Below w.heap.size w w') : HOK Try.prog ρ (argSum F (hruleP mk)) := by
  refine argSum_ok fun args gs v hp hg b base w N hok hm hbase => ?_
  unfold hruleP at hp
  split at hp
  · rename_i r0 r1 r2 r3 r4 k lo hi len m lo' hi' len'
    split at hp
    · rename_i hl
      cases hp
      obtain ⟨l1, l2, hin⟩ := hl
      simp only [Bool.and_eq_true] at hin
      obtain ⟨⟨⟨⟨n0, n1⟩, n2⟩, n3⟩, n4⟩ := hin
      obtain ⟨⟨a0, a1, a2, a3, a4, h1, h1', _⟩, _⟩ := hok
      have e1 : (SV.denL ρ b [.agg [.int .i64 r0, .int .i64 r1, .int .i64 r2, .int .i64 r3, .int .i64 r4, .osl k [.int .i64 lo hi] len, .osl m [.int .i64 lo' hi'] len']]).toArray = #[.agg #[.int .i64 (r0.e.i ρ), .int .i64 (r1.e.i ρ), .int .i64 (r2.e.i ρ), .int .i64 (r3.e.i ρ), .int .i64 (r4.e.i ρ), .slice (G k).A (G k).n (G k).c, .slice (G m).A (G m).n (G m).c]] := by
        simp only [SV.denL, den_agg, den_int]
        rw [h.slice h1, h.slice h1']
      rw [e1]
      refine (hc (G k) (G m) _ _ _ _ _ w (hks k) (hks m) (small_of h h1 l1) (small_of h h1' l2) (R.in64_ok n0 a0) (R.in64_ok n1 a1) (R.in64_ok n2 a2) (R.in64_ok n3 a3) (R.in64_ok n4 a4) (h.row hG hm hbase k) (h.row hG hm hbase m)).mono ?_
      rintro e w' ⟨h2, h3⟩
      have e2 : (E.ap 66 (.cons r0.e (.cons r1.e (.cons r2.e (.cons r3.e (.cons r4.e (.cons (.c k) (.cons (.c m) .nil)))))))).i ρ = phrule (r0.e.i ρ) (r1.e.i ρ) (r2.e.i ρ) (r3.e.i ρ) (r4.e.i ρ) (pline (G k).f (G k).n (G m).f (G m).n) (pgain (G m).f (G m).n) := by
        simp only [E.i, E.l]
        rw [h.f rfl, h66]
      refine ⟨by rw [h2, hmk, e2], hmo _ _ ?_, h3⟩
      unfold R.ok
      rw [e2]
      exact phrule_bd (pline_bd _ _ _ _)
    · cases hp
  · cases hp
end
def cASum : Handler := orSum (argSum 139 (gmayP .err)) (argSum 112 (hruleP .err))
def rASum : Handler := orSum (argSum 58 (gmayP (.int .i64))) (argSum 113 (hruleP (.int .i64)))
theorem cA_sum {G : Nat → GD} {ρ : Env} (h : Std crF noB G ρ) {w0 : World} (hG : ∀ k, (G k).ok w0) (hks : ∀ k, (G k).ks = [true]) : HOK Try.prog ρ cASum :=
  orSum_ok (gmay_gen h (fun _ _ _ _ _ _ => rfl) (mv := errV) (fun r b => err_mk ρ h.et r b) (fun r N hr => hr) fun a b c d e f w => guardCheck a b c d e f w)
    (hrule_gen h (fun _ _ _ _ _ _ _ => rfl) hG hks (mv := errV) (fun r b => err_mk ρ h.et r b) (fun r N hr => hr) fun g d lo hi tu bu mo w hk hk' hn hn' b0 b1 b2 b3 b4 o o' => holdCheck g d hk hk' hn hn' lo hi tu bu mo b0 b1 b2 b3 b4 w o o')
theorem rA_sum {G : Nat → GD} {ρ : Env} (h : Std crF noB G ρ) {w0 : World} (hG : ∀ k, (G k).ok w0) (hks : ∀ k, (G k).ks = [true]) : HOK Try.prog ρ rASum :=
  orSum_ok (gmay_gen h (fun _ _ _ _ _ _ => rfl) (mv := fun z => .int .i64 z) (fun r b => rfl) (fun r N hr => hr) fun a b c d e f w => refGuardMay a b c d e f w)
    (hrule_gen h (fun _ _ _ _ _ _ _ => rfl) hG hks (mv := fun z => .int .i64 z) (fun r b => rfl) (fun r N hr => hr) fun g d lo hi tu bu mo w hk hk' hn hn' b0 b1 b2 b3 b4 o o' => refHoldRule g d hk hk' hn hn' lo hi tu bu mo b0 b1 b2 b3 b4 w o o')
/-- An axis among the arguments: its numbers by name, two given slices. -/
structure AxJ (g d : GD) (m : Nat → Int) (ρ : Env) : Prop where
  std : Std crF noB (ltwo g d) ρ
  l4 : ρ.iv 4 = g.n
  l6 : ρ.iv 6 = d.n
  s4 : g.n ≤ 1000
  s6 : d.n ≤ 1000
  at_ : ∀ k, Nat.blt k 1000 = true → ρ.iv k = m k
theorem AxJ.same {g d : GD} {m : Nat → Int} {ρ ρ' : Env} (h : AxJ g d m ρ) (hs : Same ρ ρ' [] []) : AxJ g d m ρ' := ⟨h.std.same hs, (iv_same hs rfl).trans h.l4, (iv_same hs rfl).trans h.l6, h.s4, h.s6, fun k hk => (iv_same hs hk).trans (h.at_ k hk)⟩
theorem ax_start {g d : GD} {w : World} (o : g.ok w) (o' : d.ok w) (hk : g.ks = [true]) (hk' : d.ks = [true]) (hn : g.n ≤ 1000) (hn' : d.n ≤ 1000) (m : Nat → Int) (h4 : m 4 = g.n) (h6 : m 6 = d.n) (b : Bd) : ∃ ρ, AxJ g d m ρ ∧ Mem ρ (· < w.heap.size) w ∧ (SV.osl 0 [.int .i64 (-9223372036854775808) 9223372036854775807] ⟨.v 4, 0, 1000⟩).ok ρ (· < 0) ∧ (SV.osl 0 [.int .i64 (-9223372036854775808) 9223372036854775807] ⟨.v 4, 0, 1000⟩).den ρ b = .slice g.A g.n g.c ∧ (SV.osl 1 [.int .i64 (-9223372036854775808) 9223372036854775807] ⟨.v 6, 0, 1000⟩).ok ρ (· < 0) ∧ (SV.osl 1 [.int .i64 (-9223372036854775808) 9223372036854775807] ⟨.v 6, 0, 1000⟩).den ρ b = .slice d.A d.n d.c := by
  obtain ⟨⟨q1, q2, q3, q4⟩, q5⟩ := gen_osl (et := 23) (iv := m) (bv := fun _ => false) (fn := crF (ltwo g d)) (fb := noB (ltwo g d)) (fl := fun _ _ => []) (ltwo_ok o o') (k := 0) (m := 4) (sh := [.int .i64 (-9223372036854775808) 9223372036854775807]) (by show g.ks.map ckOf = _; rw [hk]; rfl) h4 (by show g.ks.length ≤ 100; rw [hk]; decide) (· < 0) b
  obtain ⟨⟨r1, r2, r3, r4⟩, r5⟩ := gen_osl (et := 23) (iv := m) (bv := fun _ => false) (fn := crF (ltwo g d)) (fb := noB (ltwo g d)) (fl := fun _ _ => []) (ltwo_ok o o') (k := 1) (m := 6) (sh := [.int .i64 (-9223372036854775808) 9223372036854775807]) (by show d.ks.map ckOf = _; rw [hk']; rfl) h6 (by show d.ks.length ≤ 100; rw [hk']; decide) (· < 0) b
  exact ⟨genEnv 23 m (fun _ => false) (crF (ltwo g d)) (noB (ltwo g d)) (fun _ _ => []) (ltwo g d), ⟨Std.gen () _ _ _, h4, h6, hn, hn', fun _ _ => rfl⟩, gen_mem (ltwo_ok o o'), ⟨⟨q1.1, by show m 4 ≤ 1000; omega⟩, Int.le_refl (0 : Int), q3, q4⟩, q5, ⟨⟨r1.1, by show m 6 ≤ 1000; omega⟩, Int.le_refl (0 : Int), r3, r4⟩, r5⟩
end Go.Proofs.Ytdfpenjhpemokaa.Sx
