/-
  The law TopHold: contracts as handlers, where the second list is of any length.
-/
import Derived.Test.YtdfpenjhpemokaaLineTC
import Derived.Test.YtdfpenjhpemokaaHoldK
import Derived.Test.YtdfpenjhpemokaaTop
set_option linter.unusedVariables false
set_option linter.unusedSimpArgs false
namespace Go.Proofs.Ytdfpenjhpemokaa.Sx
open Go.RowKit
def hruleB (lim : Int) (mk : R → SV) (args : List SV) : Option (List E × SV) := match args with
  | [.agg [.int .i64 r0, .int .i64 r1, .int .i64 r2, .int .i64 r3, .int .i64 r4, .osl k [.int .i64 _ _] len, .osl m [.int .i64 _ _] len']] => if (r0.in64 && r1.in64 && r2.in64 && r3.in64 && r4.in64) = true then some (geC len 1000 ++ geC len' lim, mk ⟨.ap 66 (.cons r0.e (.cons r1.e (.cons r2.e (.cons r3.e (.cons r4.e (.cons (.c k) (.cons (.c m) .nil))))))), 0, 5⟩) else none
  | _ => none
def lookB (args : List SV) : Option (List E × SV) := match args with
  | [.agg [.osl k [.int .i64 _ _] len, .osl m [.int .i64 _ _] len'], .int .i64 x] => if -9223372036854775808 ≤ x.lo ∧ x.hi ≤ 9223372036854775807 then some (geC len 1000 ++ geC len' 1000 ++ [.bin .eq (.ap 62 (.cons (.c k) (.cons (.c m) .nil))) (.c 0)], .int .i64 ⟨.ap 64 (.cons (.c k) (.cons (.c m) (.cons x.e .nil))), -4000000, 4000000⟩) else none
  | _ => none
section
variable {G : Nat → GD} {ρ : Env}
theorem hruleB_ok {F : FuncId} (h : Std lnF lnB G ρ) {w0 : World} (hG : ∀ k, (G k).ok w0) (hks : ∀ k, (G k).ks = [true]) {lim : Int} {mk : R → SV} {mv : Int → Value}
    (hmk : ∀ r b, (mk r).den ρ b = mv (r.e.i ρ)) (hmo : ∀ r N, r.ok ρ → (mk r).ok ρ N)
    (hc : ∀ (g d : GD) (lo hi tu bu mo : Int) (w : World), g.ks = [true] → d.ks = [true] → (g.n : Int) ≤ 1000 → (d.n : Int) ≤ lim → B64 lo → B64 hi → B64 tu → B64 bu → B64 mo → g.ok w → d.ok w → Calls Try.prog F #[.agg #[.int .i64 lo, .int .i64 hi, .int .i64 tu, .int .i64 bu, .int .i64 mo, .slice g.A g.n g.c, .slice d.A d.n d.c]] w fun e w' => e = .returned (mv (phrule lo hi tu bu mo (pline g.f g.n d.f d.n) (pgain d.f d.n))) ∧ Below w.heap.size w w') : HOK Try.prog ρ (argSum F (hruleB lim mk)) := by
  refine argSum_ok fun args gs v hp hg b base w N hok hm hbase => ?_
  unfold hruleB at hp
  split at hp
  · rename_i r0 r1 r2 r3 r4 k lo hi len m lo' hi' len'
    split at hp
    · rename_i hin
      cases hp
      simp only [Bool.and_eq_true] at hin
      obtain ⟨⟨⟨⟨n0, n1⟩, n2⟩, n3⟩, n4⟩ := hin
      obtain ⟨⟨a0, a1, a2, a3, a4, h1, h1', _⟩, _⟩ := hok
      have e1 : (SV.denL ρ b [.agg [.int .i64 r0, .int .i64 r1, .int .i64 r2, .int .i64 r3, .int .i64 r4, .osl k [.int .i64 lo hi] len, .osl m [.int .i64 lo' hi'] len']]).toArray = #[.agg #[.int .i64 (r0.e.i ρ), .int .i64 (r1.e.i ρ), .int .i64 (r2.e.i ρ), .int .i64 (r3.e.i ρ), .int .i64 (r4.e.i ρ), .slice (G k).A (G k).n (G k).c, .slice (G m).A (G m).n (G m).c]] := by
        simp only [SV.denL, den_agg, den_int]
        rw [h.slice h1, h.slice h1']
      rw [e1]
      refine (hc (G k) (G m) _ _ _ _ _ w (hks k) (hks m) (size_of h h1 fun g hh => hg g (List.mem_append_left _ hh)) (size_of h h1' fun g hh => hg g (List.mem_append_right _ hh)) (R.in64_ok n0 a0) (R.in64_ok n1 a1) (R.in64_ok n2 a2) (R.in64_ok n3 a3) (R.in64_ok n4 a4) (h.row hG hm hbase k) (h.row hG hm hbase m)).mono ?_
      rintro e w' ⟨h2, h3⟩
      have e2 : (E.ap 66 (.cons r0.e (.cons r1.e (.cons r2.e (.cons r3.e (.cons r4.e (.cons (.c k) (.cons (.c m) .nil)))))))).i ρ = phrule (r0.e.i ρ) (r1.e.i ρ) (r2.e.i ρ) (r3.e.i ρ) (r4.e.i ρ) (pline (G k).f (G k).n (G m).f (G m).n) (pgain (G m).f (G m).n) := by
        simp only [E.i, E.l]
        rw [h.f rfl]
        rfl
      refine ⟨by rw [h2, hmk, e2], hmo _ _ ?_, h3⟩
      unfold R.ok
      rw [e2]
      exact phrule_bd (pline_bd _ _ _ _)
    · cases hp
  · cases hp
theorem lookB_ok (h : Std lnF lnB G ρ) {w0 : World} (hG : ∀ k, (G k).ok w0) (hks : ∀ k, (G k).ks = [true]) : HOK Try.prog ρ (argSum 149 lookB) := by
  refine argSum_ok fun args gs v hp hg b base w N hok hm hbase => ?_
  unfold lookB at hp
  split at hp
  · rename_i k lo hi len m lo' hi' len' x
    split at hp
    · rename_i hl
      cases hp
      obtain ⟨⟨h1, h1', _⟩, h2, _⟩ := hok
      have g1 : decide (ρ.fn 62 [(k : Int), (m : Int)] = 0) = true := hg (.bin .eq (.ap 62 (.cons (.c k) (.cons (.c m) .nil))) (.c 0)) (List.mem_append_right _ (.head _))
      rw [h.f rfl] at g1
      have g1 : pline (G k).f (G k).n (G m).f (G m).n = 0 := of_decide_eq_true g1
      have s1 := size_of h h1 fun g hh => hg g (List.mem_append_left _ (List.mem_append_left _ hh))
      have s2 := size_of h h1' fun g hh => hg g (List.mem_append_left _ (List.mem_append_right _ hh))
      have e1 : (SV.denL ρ b [.agg [.osl k [.int .i64 lo hi] len, .osl m [.int .i64 lo' hi'] len'], .int .i64 x]).toArray = #[.agg #[.slice (G k).A (G k).n (G k).c, .slice (G m).A (G m).n (G m).c], .int .i64 (x.e.i ρ)] := by
        simp only [SV.denL, den_agg, den_int]
        rw [h.slice h1, h.slice h1']
      rw [e1]
      refine (tableLook0 (G k) (G m) (hks k) (hks m) (by omega) (by omega) (x.e.i ρ) ⟨by have := h2.1; omega, by have := h2.2; omega⟩ g1 w (h.row hG hm hbase k) (h.row hG hm hbase m)).mono ?_
      rintro e w' ⟨h3, h4⟩
      have e2 : (E.ap 64 (.cons (.c k) (.cons (.c m) (.cons x.e .nil)))).i ρ = plook (G k).f (G m).f (G k).n (x.e.i ρ) := by
        simp only [E.i, E.l]
        rw [h.f rfl]
        rfl
      refine ⟨by rw [h3, den_int, e2], ?_, h4⟩
      simp only [SV.ok, R.ok, e2]
      exact plook_bd g1 _
    · cases hp
  · cases hp
end
def tHSum : Handler := orSum (plainSum (constSum 87 (.bool (.bc true)))) (orSum (argSum 113 (hruleB 9223372036854775807 (.int .i64))) (orSum (argSum 112 (hruleB 1000 .err)) (orSum (argSum 81 (biB 62 1000 1000 .err)) (orSum (argSum 149 lookB) (argSum 68 mulP)))))
theorem tH_sum {G : Nat → GD} {ρ : Env} (h : Std lnF lnB G ρ) {w0 : World} (hG : ∀ k, (G k).ok w0) (hks : ∀ k, (G k).ks = [true]) : HOK Try.prog ρ tHSum :=
  orSum_ok (plainSum_ok (constSum_ok (val := .bool true) (fun _ => rfl) (fun _ => trivial) (fun w => topAwake w))) (orSum_ok
    (hruleB_ok h hG hks (mv := fun z => .int .i64 z) (fun r b => rfl) (fun r N hr => hr) fun g d lo hi tu bu mo w hk hk' hn hn' b0 b1 b2 b3 b4 o o' => refHoldRuleB g d hk hk' (by omega) lo hi tu bu mo b0 b1 b2 b3 b4 w o o')
    (orSum_ok (hruleB_ok h hG hks (mv := errV) (fun r b => err_mk ρ h.et r b) (fun r N hr => hr) fun g d lo hi tu bu mo w hk hk' hn hn' b0 b1 b2 b3 b4 o o' => holdCheck g d hk hk' (by omega) (by omega) lo hi tu bu mo b0 b1 b2 b3 b4 w o o')
      (orSum_ok (biB_ok h hG hks rfl (mv := errV) (φ := fun g d => pline g.f g.n d.f d.n) (fun k m => rfl) (fun g d => pline_bd _ _ _ _) (fun r b => err_mk ρ h.et r b) (fun r N hr => hr) fun g d w hk hk' hn hn' o o' => tableCheck g d hk hk' (by omega) (by omega) w o o')
        (orSum_ok (lookB_ok h hG hks) (mul_ok h fun a b w => fixMul a b w)))))
end Go.Proofs.Ytdfpenjhpemokaa.Sx
