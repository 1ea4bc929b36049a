/-
  The law LineSays walked.
-/
import Derived.Test.YtdfpenjhpemokaaLineSaysRun
import Derived.Test.YtdfpenjhpemokaaRow
import Derived.Test.YtdfpenjhpemokaaFrame
set_option linter.unusedVariables false
set_option linter.unusedSimpArgs false
namespace Go.Proofs.Ytdfpenjhpemokaa.Sx
open Go.RowKit
/-- At each round of the law's look whether a line falls. -/
structure LsI (g d : GD) (x : Int) (ρ : Env) : Prop where
  b : LBig g d x ρ
  n4 : g.n ≤ 20
  n6 : d.n ≤ 20
  e : ρ.iv 15 = pline g.f g.n d.f d.n
  want : ρ.iv 14 = if pline g.f g.n d.f d.n = 0 then plook g.f d.f g.n x else 0
  lo : 1 ≤ ρ.iv 13
  h20 : ρ.iv 13 ≤ 20
  hi : pline g.f g.n d.f d.n = 0 → ρ.iv 13 ≤ d.n
  all : ρ.bv 13 = true ↔ (pline g.f g.n d.f d.n = 0 ∧ ∀ k, k + 1 < (ρ.iv 13).toNat → d.f k ≤ d.f (k + 1))
structure LsI2 (g d : GD) (x : Int) (ρ : Env) : Prop where
  i : LsI g d x ρ
  all : ρ.bv 13 = prises g d
theorem LsI.same {g d : GD} {x : Int} {ρ ρ' : Env} (h : LsI g d x ρ) (hs : Same ρ ρ' [] []) : LsI g d x ρ' ∧ (20 - ρ'.iv 13).toNat = (20 - ρ.iv 13).toNat := by
  have e := iv_same hs (n := 13) rfl
  have e4 := iv_same hs (n := 14) rfl
  have e5 := iv_same hs (n := 15) rfl
  have eb := bv_same hs (n := 13) rfl
  exact ⟨⟨h.b.same hs, h.n4, h.n6, by rw [e5]; exact h.e, by rw [e4]; exact h.want, by rw [e]; exact h.lo, by rw [e]; exact h.h20, by rw [e]; exact h.hi, by rw [e, eb]; exact h.all⟩, by rw [e]⟩
theorem want_bd (g d : GD) (x : Int) : -4000000 ≤ (if pline g.f g.n d.f d.n = 0 then plook g.f d.f g.n x else 0) ∧ (if pline g.f g.n d.f d.n = 0 then plook g.f d.f g.n x else 0) ≤ 4000000 := by
  split
  · rename_i h
    exact plook_bd h x
  · omega
theorem prises_iff {g d : GD} : prises g d = true ↔ (pline g.f g.n d.f d.n = 0 ∧ ∀ k, k + 1 < d.n → d.f k ≤ d.f (k + 1)) := by
  unfold prises
  rw [Bool.and_eq_true, decide_eq_true_eq, pnofall_iff]
set_option maxRecDepth 100000 in
set_option maxHeartbeats 1000000 in
theorem lineSays_true (g d : GD) (hk : g.ks = [true]) (hk' : d.ks = [true]) (x : Int) (hx : B64 x) (w : World) (o : g.ok w) (o' : d.ok w) :
    Calls Try.prog 12 #[.agg #[.slice g.A g.n g.c, .slice d.A d.n d.c], .int .i64 x] w fun e w' => e = .returned (.bool true) ∧ Below w.heap.size w w' := by
  obtain ⟨ρ0, h0, hm, s1, s2⟩ := lbig_start o o' hk hk' x ⟨fun _ => 0, fun _ => 0, fun _ => 0⟩
  have key := loop1_ret (P := Try.prog) (cfg := cfgK lineSum lSKeeps 50 12) Try.func12 rfl (k := 8) (i := 0) (n := 12) (by decide +kernel) (by kernel_rfl) (args := lSArgs) (H := []) (nx := 0) lS_ran0 lS_defs0 lS_no0 lS_ran1 lS_defs1 lS_no1 lS_ran2 lS_defs2 lS_no2 (V := .bool true) (LBig g d x) (LsI g d x) (LsI2 g d x) (fun ρ => (20 - ρ.iv 13).toNat)
    (fun ρ h => ⟨h.std.et, line_sum h.std (ltwo_ok o o') (ltwo_ks hk hk')⟩) (fun ρ h => ⟨h.b.std.et, line_sum h.b.std (ltwo_ok o o') (ltwo_ks hk hk')⟩) (fun ρ ρ' h hs => h.same hs) (fun ρ ρ' h hs => h.same hs) (fun ρ h => h.i) (fun ρ ρ' h hs => ⟨(h.i.same hs).1, by rw [bv_same hs (n := 13) rfl]; exact h.all⟩) (by kernel_rfl)
    (fun ρ h => by
      have h1 := h.l4
      have h2 := h.s4
      have h3 := h.l6
      have h4 := h.s6
      have h5 := h.ex
      have h6 := hx.1
      have h7 := hx.2
      refine List.forall_mem_cons.2 ⟨?_, List.forall_mem_cons.2 ⟨?_, List.forall_mem_cons.2 ⟨?_, fun _ h => nomatch h⟩⟩⟩
      · exact fit_of (z := ρ.iv 4) rfl (by show (0 : Int) ≤ ρ.iv 4; omega) (by show ρ.iv 4 ≤ 9223372036854775807; omega)
      · exact fit_of (z := ρ.iv 6) rfl (by show (0 : Int) ≤ ρ.iv 6; omega) (by show ρ.iv 6 ≤ 9223372036854775807; omega)
      · exact fit_of (z := ρ.iv 5) rfl (by show (-9223372036854775808 : Int) ≤ ρ.iv 5; omega) (by show ρ.iv 5 ≤ 9223372036854775807; omega))
    (fun ρ h => by
      have h1 := h.lo
      have h2 := h.h20
      have h3 := h.b.l4
      have h4 := h.n4
      have h5 := h.b.l6
      have h6 := h.n6
      have h7 := h.b.ex
      have h8 := hx.1
      have h9 := hx.2
      have h10 := h.e
      have h11 := pline_bd g.f g.n d.f d.n
      have h12 := h.want
      have h13 := want_bd g d x
      refine List.forall_mem_cons.2 ⟨?_, List.forall_mem_cons.2 ⟨?_, List.forall_mem_cons.2 ⟨?_, List.forall_mem_cons.2 ⟨?_, List.forall_mem_cons.2 ⟨?_, List.forall_mem_cons.2 ⟨?_, fun _ h => nomatch h⟩⟩⟩⟩⟩⟩
      · exact fit_of (z := ρ.iv 13) rfl (by show (1 : Int) ≤ ρ.iv 13; omega) (by show ρ.iv 13 ≤ 20; omega)
      · exact fit_of (z := ρ.iv 14) rfl (by show (-4000000 : Int) ≤ ρ.iv 14; omega) (by show ρ.iv 14 ≤ 4000000; omega)
      · exact fit_of (z := ρ.iv 15) rfl (by show (0 : Int) ≤ ρ.iv 15; omega) (by show ρ.iv 15 ≤ 5; omega)
      · exact fit_of (z := ρ.iv 5) rfl (by show (-9223372036854775808 : Int) ≤ ρ.iv 5; omega) (by show ρ.iv 5 ≤ 9223372036854775807; omega)
      · exact fit_of (z := ρ.iv 4) rfl (by show (0 : Int) ≤ ρ.iv 4; omega) (by show ρ.iv 4 ≤ 20; omega)
      · exact fit_of (z := ρ.iv 6) rfl (by show (0 : Int) ≤ ρ.iv 6; omega) (by show ρ.iv 6 ≤ 20; omega))
    (fun ρ h hv => Eq.mpr (lS_w0 ρ) (by
      exact ⟨fun ⟨c, _⟩ => c, trivial⟩))
    (fun ρ h hv => Eq.mpr (lS_w1 ρ) (by
      have h1 := h.lo
      refine ⟨fun ⟨_, c, _⟩ => ?_, trivial⟩
      rw [Bool.and_eq_true, decide_eq_true_eq] at c
      have c := c.1
      exact decide_eq_true (by omega)))
    (fun ρ h hv => Eq.mpr (lS_w2 ρ) (by
      exact ⟨fun ⟨c, _⟩ => c, trivial⟩))
    (by
      refine List.forall_mem_cons.2 ⟨?_, List.forall_mem_cons.2 ⟨?_, fun _ h => nomatch h⟩⟩
      · intro ρ h hv hp
        obtain ⟨c0, _⟩ := Eq.mp (lS_0_pc0 ρ) hp
        refine .inl ⟨rfl, (fun _ h => nomatch h), [.bool (.bc true)], by kernel_rfl, fun b => ?_⟩
        rfl
      · intro ρ h hv hp
        obtain ⟨c0, _⟩ := Eq.mp (lS_0_pc1 ρ) hp
        refine .inr ⟨rfl, rfl, ?_⟩
        obtain ⟨_, hy, _⟩ := Eq.mp (lS_says0 ρ) hv
        have e62 : ρ.fn 62 [0, 1] = pline g.f g.n d.f d.n := by rw [h.std.f rfl]; rfl
        have e64 : ρ.fn 64 [0, 1, ρ.iv 5] = plook g.f d.f g.n x := by rw [h.std.f rfl, h.ex]; rfl
        simp only [Bool.not_eq_true', Bool.or_eq_false_iff, decide_eq_false_iff_not] at c0
        have l4 := h.l4
        have l6 := h.l6
        rw [e62, e64] at hy
        refine ⟨⟨h.std.sub _, h.l4, h.l6, h.ex, h.s4, h.s6⟩, by omega, by omega, e62, ?_, Int.le_refl _, by show (1 : Int) ≤ 20; omega, fun hp => ?_, ?_⟩
        · show ρ.iv 599159445820635076 = _
          rw [hy]
          simp only [decide_eq_true_eq]
        · obtain ⟨hnn, n2, n8, wf, rf, wg⟩ := pline_parts hp
          show (1 : Int) ≤ d.n
          omega
        · show decide (ρ.fn 62 [0, 1] = 0) = true ↔ _
          rw [e62, decide_eq_true_eq]
          exact ⟨fun hp => ⟨hp, fun k hk => absurd hk (by show ¬ k + 1 < 1; omega)⟩, fun hp => hp.1⟩)
    (by
      refine List.forall_mem_cons.2 ⟨?_, List.forall_mem_cons.2 ⟨?_, fun _ h => nomatch h⟩⟩
      · intro ρ h hv hp
        obtain ⟨c0, _⟩ := Eq.mp (lS_1_pc0 ρ) hp
        refine .inl ⟨rfl, rfl, ?_, ?_⟩
        · rw [Bool.and_eq_true, decide_eq_true_eq, decide_eq_true_eq] at c0
          have h1 := h.lo
          have l6 := h.b.l6
          have n6 := h.n6
          have he := h.e
          have hp : pline g.f g.n d.f d.n = 0 := by omega
          refine ⟨⟨h.b.std.sub _, h.b.l4, h.b.l6, h.b.ex, h.b.s4, h.b.s6⟩, h.n4, h.n6, hp.symm, h.want, by show 1 ≤ ρ.iv 13 + 1; omega, by show ρ.iv 13 + 1 ≤ 20; omega, fun _ => by show ρ.iv 13 + 1 ≤ d.n; omega, ?_⟩
          show (ρ.bv 13 && decide (ρ.fn 1100 [ρ.iv 13 - 1] ≤ ρ.fn 1100 [ρ.iv 13])) = true ↔ (_ ∧ ∀ k, k + 1 < (ρ.iv 13 + 1).toNat → _)
          rw [Bool.and_eq_true, h.all, decide_eq_true_eq, h.b.g, h.b.g]
          constructor
          · rintro ⟨⟨_, a⟩, c⟩
            refine ⟨hp, fun k hk => ?_⟩
            by_cases hk' : k + 1 < (ρ.iv 13).toNat
            · exact a k hk'
            · have e1 : (ρ.iv 13 - 1).toNat = k := by omega
              have e2 : (ρ.iv 13).toNat = k + 1 := by omega
              rw [e1, e2] at c
              exact c
          · rintro ⟨_, a⟩
            refine ⟨⟨hp, fun k hk => a k (by omega)⟩, ?_⟩
            have := a (ρ.iv 13 - 1).toNat (by omega)
            have e : (ρ.iv 13 - 1).toNat + 1 = (ρ.iv 13).toNat := by omega
            rwa [e] at this
        · rw [Bool.and_eq_true, decide_eq_true_eq, decide_eq_true_eq] at c0
          have l6 := h.b.l6
          have n6 := h.n6
          show (20 - (ρ.iv 13 + 1)).toNat < (20 - ρ.iv 13).toNat
          omega
      · intro ρ h hv hp
        obtain ⟨c0, _⟩ := Eq.mp (lS_1_pc1 ρ) hp
        refine .inr (.inl ⟨rfl, rfl, ?_⟩)
        have l6 := h.b.l6
        have he := h.e
        simp only [Bool.not_eq_true', Bool.and_eq_false_imp, decide_eq_true_eq, decide_eq_false_iff_not] at c0
        refine ⟨⟨⟨h.b.std.sub _, h.b.l4, h.b.l6, h.b.ex, h.b.s4, h.b.s6⟩, h.n4, h.n6, h.e, h.want, h.lo, h.h20, h.hi, h.all⟩, ?_⟩
        show ρ.bv 13 = _
        rw [Bool.eq_iff_iff, h.all, prises_iff]
        refine and_congr_right fun hp => ?_
        have hi := h.hi hp
        have e : (ρ.iv 13).toNat = d.n := by
          by_cases hc : ρ.iv 13 < ρ.iv 6
          · exact absurd (he.trans hp) (c0 hc)
          · omega
        rw [e])
    (by
      refine List.forall_mem_cons.2 ⟨?_, fun _ h => nomatch h⟩
      · intro ρ h hv hp
        refine ⟨.inr rfl, (fun _ h => nomatch h), [.bool (.bv 900)], by kernel_rfl, fun b => ?_⟩
        obtain ⟨_, y1, y2, y3, _⟩ := Eq.mp (lS_says2 ρ) hv
        have e62 : ρ.fn 62 [0, 1] = pline g.f g.n d.f d.n := by rw [h.i.b.std.f rfl]; rfl
        have e64 : ρ.fn 64 [0, 1, ρ.iv 5] = plook g.f d.f g.n x := by rw [h.i.b.std.f rfl, h.i.b.ex]; rfl
        have e65 : ρ.fb 65 [0, 1] = prises g d := by rw [h.i.b.std.b rfl]; rfl
        have he := h.i.e
        have hw := h.i.want
        have ha := h.all
        rw [e62] at y1
        rw [e62, e64] at y2
        rw [e62, y1, y2, e65, he, hw, ha] at y3
        have : ρ.bv 1841589822962181198 = true := by
          rw [y3]
          by_cases hp : pline g.f g.n d.f d.n = 0
          · cases prises g d <;> simp [hp]
          · cases prises g d <;> simp [hp]
        exact congrArg Value.bool this)
    h0 ⟨fun _ => 0, fun _ => 0, fun _ => 0⟩ w (noHeap _ _ _ _) ⟨s1, ⟨by show _ ≤ ρ0.iv 5; rw [h0.ex]; exact hx.1, by show ρ0.iv 5 ≤ _; rw [h0.ex]; exact hx.2⟩, trivial⟩ hm
  have e : SV.denL ρ0 ⟨fun _ => 0, fun _ => 0, fun _ => 0⟩ lSArgs = [.agg #[.slice g.A g.n g.c, .slice d.A d.n d.c], .int .i64 x] := by
    unfold lSArgs
    simp only [SV.denL]
    have s3 := s2
    unfold bigLine at s3
    rw [s3]
    simp only [SV.den, E.i, h0.ex]
  rw [e] at key
  exact key
end Go.Proofs.Ytdfpenjhpemokaa.Sx
namespace Go.Proofs.Ytdfpenjhpemokaa
open Go.ChangeShapes Go.WideShapes Go.ChangeAt Go.Deep Go.RowKit in
set_option maxRecDepth 100000 in
theorem walkLineSays {H : Type} (W : World) (base : Nat) (enc : TypeId × Value → H) (v0 v1 : Value) {d0 d1 : DataW H} {p0 p1 : List MemPlace}
    (k0 : Value.okWide Try.prog W .any base 81 v0) (k1 : Value.okWide Try.prog W .any base 3 v1)
    (h0 : DataW.Trod enc Try.prog W 0 (fun _ => true) true 81 v0 d0 p0) (_ : DataW.Trod enc Try.prog W 0 (fun _ => true) true 3 v1 d1 p1) :
    Calls Try.prog 12 #[v0, v1] W fun e W' => e = .returned (.bool true) ∧ Below W.heap.size W W' := by
  obtain ⟨g, d, rfl, o, hk, o', hk'⟩ := Sx.pair_open [true] [true] (by decide) (by decide) Try.underlying81 (by kernel_rfl) (by kernel_rfl) Try.underlying78 (by kernel_rfl) (by kernel_rfl) Try.underlying78 (by kernel_rfl) (by kernel_rfl) k0 h0
  obtain ⟨x, rfl, ex⟩ := okWide_int Try.underlying3 k1
  exact Sx.lineSays_true g d hk hk' x ex W o o'
end Go.Proofs.Ytdfpenjhpemokaa
