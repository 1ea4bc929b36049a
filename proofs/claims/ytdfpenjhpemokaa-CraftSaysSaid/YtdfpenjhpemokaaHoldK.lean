/-
  Holding: contracts as handlers; a hold's rule among the arguments.
-/
import Derived.Test.YtdfpenjhpemokaaHoldB
import Derived.Test.YtdfpenjhpemokaaFix
set_option linter.unusedVariables false
set_option linter.unusedSimpArgs false
namespace Go.Proofs.Ytdfpenjhpemokaa.Sx
open Go.RowKit
def hruleP (mk : R → SV) (args : List SV) : Option (List E × SV) := match args with
  | [.agg [.int .i64 r0, .int .i64 r1, .int .i64 r2, .int .i64 r3, .int .i64 r4, .osl k [.int .i64 _ _] len, .osl m [.int .i64 _ _] len']] => if len.hi ≤ 1000 ∧ len'.hi ≤ 1000 ∧ (r0.in64 && r1.in64 && r2.in64 && r3.in64 && r4.in64) = true then some ([], mk ⟨.ap 66 (.cons r0.e (.cons r1.e (.cons r2.e (.cons r3.e (.cons r4.e (.cons (.c k) (.cons (.c m) .nil))))))), 0, 5⟩) else none
  | _ => none
def mulP (args : List SV) : Option (List E × SV) := match args with
  | [.int .i64 x, .int .i64 y] => some ([], .int .i64 ⟨.ap 67 (.cons x.e (.cons y.e .nil)), -2147483647, 2147483647⟩)
  | _ => none
def holdSum : Handler := orSum (orSum (argSum 112 (hruleP .err)) (orSum (argSum 113 (hruleP (.int .i64))) (orSum (argSum 68 mulP) (argSum 44 mulP)))) lineSum
section
variable {G : Nat → GD} {ρ : Env}
theorem hrule_ok {F : FuncId} (h : Std lnF lnB G ρ) {w0 : World} (hG : ∀ k, (G k).ok w0) (hks : ∀ k, (G k).ks = [true]) {mk : R → SV} {mv : Int → Value}
    (hmk : ∀ r b, (mk r).den ρ b = mv (r.e.i ρ)) (hmo : ∀ r N, r.ok ρ → (mk r).ok ρ N)
    (hc : ∀ (g d : GD) (lo hi tu bu mo : Int) (w : World), g.ks = [true] → d.ks = [true] → g.n ≤ 1000 → d.n ≤ 1000 → B64 lo → B64 hi → B64 tu → B64 bu → B64 mo → g.ok w → d.ok w → Calls Try.prog F #[.agg #[.int .i64 lo, .int .i64 hi, .int .i64 tu, .int .i64 bu, .int .i64 mo, .slice g.A g.n g.c, .slice d.A d.n d.c]] w fun e w' => e = .returned (mv (phrule lo hi tu bu mo (pline g.f g.n d.f d.n) (pgain d.f d.n))) ∧ Below w.heap.size w w') : HOK Try.prog ρ (argSum F (hruleP mk)) := by
  refine argSum_ok fun args gs v hp hg b base w N hok hm hbase => ?_
  unfold hruleP at hp
  split at hp
  · rename_i r0 r1 r2 r3 r4 k lo hi len m lo' hi' len'
    split at hp
    · rename_i hl
      cases hp
      obtain ⟨l1, l2, hin⟩ := hl
      simp only [Bool.and_eq_true] at hin
      obtain ⟨⟨⟨⟨n0, n1⟩, n2⟩, n3⟩, n4⟩ := hin
      obtain ⟨⟨a0, a1, a2, a3, a4, h1, h1', _⟩, _⟩ := hok
      have e1 : (SV.denL ρ b [.agg [.int .i64 r0, .int .i64 r1, .int .i64 r2, .int .i64 r3, .int .i64 r4, .osl k [.int .i64 lo hi] len, .osl m [.int .i64 lo' hi'] len']]).toArray = #[.agg #[.int .i64 (r0.e.i ρ), .int .i64 (r1.e.i ρ), .int .i64 (r2.e.i ρ), .int .i64 (r3.e.i ρ), .int .i64 (r4.e.i ρ), .slice (G k).A (G k).n (G k).c, .slice (G m).A (G m).n (G m).c]] := by
        simp only [SV.denL, den_agg, den_int]
        rw [h.slice h1, h.slice h1']
      rw [e1]
      refine (hc (G k) (G m) _ _ _ _ _ w (hks k) (hks m) (small_of h h1 l1) (small_of h h1' l2) (R.in64_ok n0 a0) (R.in64_ok n1 a1) (R.in64_ok n2 a2) (R.in64_ok n3 a3) (R.in64_ok n4 a4) (h.row hG hm hbase k) (h.row hG hm hbase m)).mono ?_
      rintro e w' ⟨h2, h3⟩
      have e2 : (E.ap 66 (.cons r0.e (.cons r1.e (.cons r2.e (.cons r3.e (.cons r4.e (.cons (.c k) (.cons (.c m) .nil)))))))).i ρ = phrule (r0.e.i ρ) (r1.e.i ρ) (r2.e.i ρ) (r3.e.i ρ) (r4.e.i ρ) (pline (G k).f (G k).n (G m).f (G m).n) (pgain (G m).f (G m).n) := by
        simp only [E.i, E.l]
        rw [h.f rfl]
        rfl
      refine ⟨by rw [h2, hmk, e2], hmo _ _ ?_, h3⟩
      unfold R.ok
      rw [e2]
      exact phrule_bd (pline_bd _ _ _ _)
    · cases hp
  · cases hp
theorem mul_ok {F : FuncId} (h : Std lnF lnB G ρ) (hc : ∀ a b w, Calls Try.prog F #[.int .i64 a, .int .i64 b] w fun e w' => e = .returned (.int .i64 (pmul a b)) ∧ w = w') : HOK Try.prog ρ (argSum F mulP) := by
  refine argSum_ok fun args gs v hp hg b base w N hok hm hbase => ?_
  unfold mulP at hp
  split at hp
  · rename_i x y
    cases hp
    have e1 : (SV.denL ρ b [.int .i64 x, .int .i64 y]).toArray = #[.int .i64 (x.e.i ρ), .int .i64 (y.e.i ρ)] := by
      simp only [SV.denL, den_int]
    rw [e1]
    refine (hc _ _ w).mono ?_
    rintro e w' ⟨h2, rfl⟩
    have e2 : (E.ap 67 (.cons x.e (.cons y.e .nil))).i ρ = pmul (x.e.i ρ) (y.e.i ρ) := by
      simp only [E.i, E.l]
      rw [h.f rfl]
      rfl
    refine ⟨by rw [h2, den_int, e2], ?_, Below.refl _ _⟩
    simp only [SV.ok, R.ok, e2]
    unfold pmul
    exact ⟨pof_lo _, pof_hi _⟩
  · cases hp
theorem hold_sum (h : Std lnF lnB G ρ) {w0 : World} (hG : ∀ k, (G k).ok w0) (hks : ∀ k, (G k).ks = [true]) : HOK Try.prog ρ holdSum :=
  orSum_ok (orSum_ok (hrule_ok h hG hks (mv := errV) (fun r b => err_mk ρ h.et r b) (fun r N hr => hr) fun g d lo hi tu bu mo w hk hk' hn hn' b0 b1 b2 b3 b4 o o' => holdCheck g d hk hk' hn hn' lo hi tu bu mo b0 b1 b2 b3 b4 w o o')
    (orSum_ok (hrule_ok h hG hks (mv := fun z => .int .i64 z) (fun r b => rfl) (fun r N hr => hr) fun g d lo hi tu bu mo w hk hk' hn hn' b0 b1 b2 b3 b4 o o' => refHoldRule g d hk hk' hn hn' lo hi tu bu mo b0 b1 b2 b3 b4 w o o')
      (orSum_ok (mul_ok h fun a b w => fixMul a b w) (mul_ok h fun a b w => refMul a b w)))) (line_sum h hG hks)
end
theorem phrule_zero {lo hi tu bu mo pl : Int} {ga : Bool} (h : phrule lo hi tu bu mo pl ga = 0) : pl = 0 := by
  unfold phrule at h
  split at h
  · split at h
    · exact absurd h (by decide)
    · split at h
      · assumption
      · rename_i hp; exact absurd h hp
  · exact absurd h (by decide)
end Go.Proofs.Ytdfpenjhpemokaa.Sx
