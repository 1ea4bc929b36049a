/-
  A craft: contracts of its axes; a craft among the arguments.
-/
import Derived.Test.YtdfpenjhpemokaaAxis
import Derived.Test.YtdfpenjhpemokaaSlots
import Derived.Test.YtdfpenjhpemokaaSxLaw
set_option linter.unusedVariables false
set_option linter.unusedSimpArgs false
namespace Go.Proofs.Ytdfpenjhpemokaa.Sx
open Go.RowKit
/-- A contract whose conditions are to be shown whatever the way. -/
def argSum0 (k : FuncId) (p : List SV → Option (List E × SV)) : Handler := fun _ f args H nx =>
  if Nat.beq f k then match p args with
    | some (gs, v) => some (.leaf ⟨v, H, nx⟩, gs.map fun g => ⟨[], g⟩)
    | none => none
  else none
theorem argSum0_ok {P : Program} {ρ : Env} {k : FuncId} {p : List SV → Option (List E × SV)}
    (h : ∀ args gs v, p args = some (gs, v) → (∀ g ∈ gs, g.b ρ = true) → ∀ b base w N, SV.okL ρ N args → Mem ρ base w → (∀ k, base k → k < w.heap.size) → Calls P k (SV.denL ρ b args).toArray w fun e w' => e = .returned (v.den ρ b) ∧ v.ok ρ N ∧ Below w.heap.size w w') : HOK P ρ (argSum0 k p) := by
  intro pc f args H nx r vs hs hpc hv b base w0 w hH hmem hbel hbase hargs
  unfold argSum0 at hs
  split at hs
  · rename_i hk
    have := Nat.eq_of_beq_eq_true hk
    subst this
    split at hs
    · rename_i gs v hp
      cases hs
      have hg : ∀ g ∈ gs, g.b ρ = true := fun g hg => hv ⟨[], g⟩ (List.mem_map.2 ⟨g, hg, rfl⟩) (allB_nil ρ)
      refine (h args gs v hp hg b base w _ hargs (hmem.kept hbel) hbase).mono ?_
      rintro e w' ⟨h1, h2, h3⟩
      exact ⟨b, h1, Agree.refl b _, hH.mono (Agree.refl b _) (fun _ h => h) (fun k hk => h3.block k hk) hbase, h2, hbel.trans ((Kept.of h3).mono hbase), fun k hk => Nat.lt_of_lt_of_le (hbase k hk) h3.size, Nat.le_refl _⟩
    · cases hs
  · cases hs
def axisP (mk : R → SV) (b0 b1 : Int × Int) (args : List SV) : Option (List E × SV) := match args with
  | [.agg [.int .i64 r0, .int .i64 r1, .int .i64 r2, .int .i64 r3, .int .i64 r4, .int .i64 r5, .int .i64 r6, .int .i64 r7, .int .i64 r8, .int .i64 r9, .int .i64 r10, .int .i64 r11, .osl k [.int .i64 _ _] len, .osl m [.int .i64 _ _] len', .int .i64 r12]] =>
    if len.hi ≤ 1000 ∧ len'.hi ≤ 1000 ∧ ([r0, r1, r2, r3, r4, r5, r6, r7, r8, r9, r10, r11, r12].all R.in64) = true then
      let t : E := (.ap 70 (.cons r0.e (.cons r1.e (.cons r2.e (.cons r3.e (.cons r4.e (.cons r5.e (.cons r6.e (.cons r7.e (.cons r8.e (.cons r9.e (.cons r10.e (.cons r11.e (.cons r12.e (.cons (.c k) (.cons (.c m) .nil))))))))))))))))
      let b := if k = 0 then b0 else b1
      some ([.bin .le (.c b.1) t, .bin .le t (.c b.2)], mk ⟨if b.1 = b.2 then .c b.1 else t, b.1, b.2⟩)
    else none
  | _ => none
def errF (r : R) : SV := if 1 ≤ r.lo then .ifc 23 (.int .i64 r) else .err r
theorem errF_den {ρ : Env} (h : ρ.et = 23) (r : R) (hr : r.ok ρ) (b : Bd) : (errF r).den ρ b = errV (r.e.i ρ) := by
  unfold errF
  split
  · rename_i hl
    have := hr.1
    simp only [SV.den]
    rw [errV_ne (by omega)]
  · exact err_mk ρ h r b
theorem errF_ok {ρ : Env} {N : Nat → Prop} {r : R} (hr : r.ok ρ) : (errF r).ok ρ N := by
  unfold errF
  split <;> exact hr
theorem axis_gen {G : Nat → GD} {ρ : Env} {F : FuncId} (h : Std crF noB G ρ) {w0 : World} (hG : ∀ k, (G k).ok w0) (hks : ∀ k, (G k).ks = [true]) {mk : R → SV} {mv : Int → Value} {b0 b1 : Int × Int}
    (hmk : ∀ r b, r.ok ρ → (mk r).den ρ b = mv (r.e.i ρ)) (hmo : ∀ r N, r.ok ρ → (mk r).ok ρ N)
    (hc : ∀ (g d : GD) (lo hi no pu su tr ra sl li co wa tu bu : Int) (w : World), g.ks = [true] → d.ks = [true] → g.n ≤ 1000 → d.n ≤ 1000 → B64 lo → B64 hi → B64 no → B64 pu → B64 su → B64 tr → B64 ra → B64 sl → B64 li → B64 co → B64 wa → B64 tu → B64 bu → g.ok w → d.ok w → Calls Try.prog F #[.agg #[.int .i64 lo, .int .i64 hi, .int .i64 no, .int .i64 pu, .int .i64 su, .int .i64 tr, .int .i64 ra, .int .i64 sl, .int .i64 li, .int .i64 co, .int .i64 wa, .int .i64 tu, .slice g.A g.n g.c, .slice d.A d.n d.c, .int .i64 bu]] w fun e w' => e = .returned (mv (paxis (pline g.f g.n d.f d.n) (pgain d.f d.n) lo hi no pu su tr ra sl li co wa tu bu)) ∧ Below w.heap.size w w') : HOK Try.prog ρ (argSum0 F (axisP mk b0 b1)) := by
  refine argSum0_ok fun args gs v hp hg b base w N hok hm hbase => ?_
  unfold axisP at hp
  split at hp
  · rename_i r0 r1 r2 r3 r4 r5 r6 r7 r8 r9 r10 r11 k lo hi len m lo' hi' len' r12
    split at hp
    · rename_i hl
      obtain ⟨l1, l2, hin⟩ := hl
      simp only [List.all_cons, List.all_nil, Bool.and_eq_true] at hin
      obtain ⟨n0, n1, n2, n3, n4, n5, n6, n7, n8, n9, n10, n11, n12, _⟩ := hin
      obtain ⟨⟨a0, a1, a2, a3, a4, a5, a6, a7, a8, a9, a10, a11, h1, h1', a12, _⟩, _⟩ := hok
      have e2 : ((.ap 70 (.cons r0.e (.cons r1.e (.cons r2.e (.cons r3.e (.cons r4.e (.cons r5.e (.cons r6.e (.cons r7.e (.cons r8.e (.cons r9.e (.cons r10.e (.cons r11.e (.cons r12.e (.cons (.c k) (.cons (.c m) .nil)))))))))))))))) : E).i ρ = paxis (pline (G k).f (G k).n (G m).f (G m).n) (pgain (G m).f (G m).n) (r0.e.i ρ) (r1.e.i ρ) (r2.e.i ρ) (r3.e.i ρ) (r4.e.i ρ) (r5.e.i ρ) (r6.e.i ρ) (r7.e.i ρ) (r8.e.i ρ) (r9.e.i ρ) (r10.e.i ρ) (r11.e.i ρ) (r12.e.i ρ) := by
        simp only [E.i, E.l]
        rw [h.f rfl]
        rfl
      dsimp only at hp
      generalize hb : (if k = 0 then b0 else b1) = c at hp
      cases hp
      have g1 := hg _ (.head _)
      have g2 := hg _ (.tail _ (.head _))
      have g1 := of_decide_eq_true g1
      have g2 := of_decide_eq_true g2
      rw [e2] at g1 g2
      have g1 : c.1 ≤ paxis (pline (G k).f (G k).n (G m).f (G m).n) (pgain (G m).f (G m).n) (r0.e.i ρ) (r1.e.i ρ) (r2.e.i ρ) (r3.e.i ρ) (r4.e.i ρ) (r5.e.i ρ) (r6.e.i ρ) (r7.e.i ρ) (r8.e.i ρ) (r9.e.i ρ) (r10.e.i ρ) (r11.e.i ρ) (r12.e.i ρ) := g1
      have g2 : paxis (pline (G k).f (G k).n (G m).f (G m).n) (pgain (G m).f (G m).n) (r0.e.i ρ) (r1.e.i ρ) (r2.e.i ρ) (r3.e.i ρ) (r4.e.i ρ) (r5.e.i ρ) (r6.e.i ρ) (r7.e.i ρ) (r8.e.i ρ) (r9.e.i ρ) (r10.e.i ρ) (r11.e.i ρ) (r12.e.i ρ) ≤ c.2 := g2
      have e3 : (if c.1 = c.2 then (.c c.1 : E) else (.ap 70 (.cons r0.e (.cons r1.e (.cons r2.e (.cons r3.e (.cons r4.e (.cons r5.e (.cons r6.e (.cons r7.e (.cons r8.e (.cons r9.e (.cons r10.e (.cons r11.e (.cons r12.e (.cons (.c k) (.cons (.c m) .nil))))))))))))))))).i ρ = paxis (pline (G k).f (G k).n (G m).f (G m).n) (pgain (G m).f (G m).n) (r0.e.i ρ) (r1.e.i ρ) (r2.e.i ρ) (r3.e.i ρ) (r4.e.i ρ) (r5.e.i ρ) (r6.e.i ρ) (r7.e.i ρ) (r8.e.i ρ) (r9.e.i ρ) (r10.e.i ρ) (r11.e.i ρ) (r12.e.i ρ) := by
        split
        · rename_i hc; show c.1 = _; omega
        · exact e2
      have hr : R.ok ρ ⟨if c.1 = c.2 then .c c.1 else (.ap 70 (.cons r0.e (.cons r1.e (.cons r2.e (.cons r3.e (.cons r4.e (.cons r5.e (.cons r6.e (.cons r7.e (.cons r8.e (.cons r9.e (.cons r10.e (.cons r11.e (.cons r12.e (.cons (.c k) (.cons (.c m) .nil)))))))))))))))), c.1, c.2⟩ := by
        unfold R.ok
        dsimp only
        rw [e3]
        exact ⟨g1, g2⟩
      have e1 : (SV.denL ρ b [.agg [.int .i64 r0, .int .i64 r1, .int .i64 r2, .int .i64 r3, .int .i64 r4, .int .i64 r5, .int .i64 r6, .int .i64 r7, .int .i64 r8, .int .i64 r9, .int .i64 r10, .int .i64 r11, .osl k [.int .i64 lo hi] len, .osl m [.int .i64 lo' hi'] len', .int .i64 r12]]).toArray = #[.agg #[.int .i64 (r0.e.i ρ), .int .i64 (r1.e.i ρ), .int .i64 (r2.e.i ρ), .int .i64 (r3.e.i ρ), .int .i64 (r4.e.i ρ), .int .i64 (r5.e.i ρ), .int .i64 (r6.e.i ρ), .int .i64 (r7.e.i ρ), .int .i64 (r8.e.i ρ), .int .i64 (r9.e.i ρ), .int .i64 (r10.e.i ρ), .int .i64 (r11.e.i ρ), .slice (G k).A (G k).n (G k).c, .slice (G m).A (G m).n (G m).c, .int .i64 (r12.e.i ρ)]] := by
        simp only [SV.denL, den_agg, den_int]
        rw [h.slice h1, h.slice h1']
      rw [e1]
      refine (hc (G k) (G m) _ _ _ _ _ _ _ _ _ _ _ _ _ w (hks k) (hks m) (small_of h h1 l1) (small_of h h1' l2) (R.in64_ok n0 a0) (R.in64_ok n1 a1) (R.in64_ok n2 a2) (R.in64_ok n3 a3) (R.in64_ok n4 a4) (R.in64_ok n5 a5) (R.in64_ok n6 a6) (R.in64_ok n7 a7) (R.in64_ok n8 a8) (R.in64_ok n9 a9) (R.in64_ok n10 a10) (R.in64_ok n11 a11) (R.in64_ok n12 a12) (h.row hG hm hbase k) (h.row hG hm hbase m)).mono ?_
      rintro e w' ⟨h2, h3⟩
      refine ⟨by rw [h2, hmk _ _ hr]; dsimp only; rw [e3], hmo _ _ hr, h3⟩
    · cases hp
  · cases hp
def csSum (b0 b1 : Int × Int) : Handler := orSum (argSum0 162 (axisP (.int .i64) b0 b1)) (argSum0 163 (axisP errF b0 b1))
theorem cs_sum {G : Nat → GD} {ρ : Env} (h : Std crF noB G ρ) {w0 : World} (hG : ∀ k, (G k).ok w0) (hks : ∀ k, (G k).ks = [true]) (b0 b1 : Int × Int) : HOK Try.prog ρ (csSum b0 b1) :=
  orSum_ok (axis_gen h hG hks (mv := fun z => .int .i64 z) (fun r b _ => rfl) (fun r N hr => hr) fun g d lo hi no pu su tr ra sl li co wa tu bu w hk hk' hn hn' b0 b1 b2 b3 b4 b5 b6 b7 b8 b9 b10 b11 b12 o o' => refAxis g d hk hk' hn hn' lo hi no pu su tr ra sl li co wa tu bu b0 b1 b2 b3 b4 b5 b6 b7 b8 b9 b10 b11 b12 w o o')
    (axis_gen h hG hks (mv := errV) (fun r b hr => errF_den h.et r hr b) (fun r N hr => errF_ok hr) fun g d lo hi no pu su tr ra sl li co wa tu bu w hk hk' hn hn' b0 b1 b2 b3 b4 b5 b6 b7 b8 b9 b10 b11 b12 o o' => checkAxis g d hk hk' hn hn' lo hi no pu su tr ra sl li co wa tu bu b0 b1 b2 b3 b4 b5 b6 b7 b8 b9 b10 b11 b12 w o o')
def four (g0 d0 g1 d1 : GD) : Nat → GD := fun k => match k with | 0 => g0 | 1 => d0 | 2 => g1 | 3 => d1 | _ => GD.none1
theorem four_ok {g0 d0 g1 d1 : GD} {w : World} (o0 : g0.ok w) (o1 : d0.ok w) (o2 : g1.ok w) (o3 : d1.ok w) : ∀ k, (four g0 d0 g1 d1 k).ok w := fun k => by
  match k with
  | 0 => exact o0
  | 1 => exact o1
  | 2 => exact o2
  | 3 => exact o3
  | k + 4 => exact GD.none1_ok w
theorem four_ks {g0 d0 g1 d1 : GD} (k0 : g0.ks = [true]) (k1 : d0.ks = [true]) (k2 : g1.ks = [true]) (k3 : d1.ks = [true]) : ∀ k, (four g0 d0 g1 d1 k).ks = [true] := fun k => by
  match k with
  | 0 => exact k0
  | 1 => exact k1
  | 2 => exact k2
  | 3 => exact k3
  | k + 4 => rfl
def fullR (n : Nat) : SV := .int .i64 ⟨.v n, -9223372036854775808, 9223372036854775807⟩
def lenR (k n : Nat) : SV := .osl k [.int .i64 (-9223372036854775808) 9223372036854775807] ⟨.v n, 0, 9223372036854775807⟩
def csArgs (s0 s1 lim con : R) : List SV := [.agg [fullR 20, fullR 21, fullR 22, fullR 23, .int .i64 s0, fullR 25, fullR 26, fullR 27, fullR 28, fullR 29, fullR 30, fullR 31, lenR 0 100, lenR 1 101, fullR 32, fullR 40, fullR 41, fullR 42, fullR 43, .int .i64 s1, fullR 45, fullR 46, fullR 47, fullR 48, fullR 49, fullR 50, fullR 51, lenR 2 102, lenR 3 103, fullR 52, .int .i64 lim, .int .i64 con]]
end Go.Proofs.Ytdfpenjhpemokaa.Sx
