/-
  Lists of any length: R.worth, R.LineMay, R.HoldRuleMay.
-/
import Derived.Test.YtdfpenjhpemokaaWorthBRun
import Derived.Test.YtdfpenjhpemokaaLineK
import Derived.Test.YtdfpenjhpemokaaDiceK
set_option linter.unusedVariables false
set_option linter.unusedSimpArgs false
namespace Go.Proofs.Ytdfpenjhpemokaa.Sx
open Go.RowKit

/-- What is known of one given slice, and its length. -/
structure OneB (g : GD) (ρ : Env) : Prop where
  std : Std noF noB (one g) ρ
  len : ρ.iv 4 = g.n
  small : g.n ≤ 9223372036854775807
theorem OneB.same {g : GD} {ρ ρ' : Env} (h : OneB g ρ) (hs : Same ρ ρ' [] []) : OneB g ρ' := ⟨h.std.same hs, (iv_same hs rfl).trans h.len, h.small⟩
theorem OneB.el {g : GD} {ρ : Env} (h : OneB g ρ) (i : Int) : ρ.fn 1000 [i] = g.f i.toNat := h.std.e (k := 0) (j := 0) rfl i
/-- At each round. -/
structure WorthBI (g : GD) (ρ : Env) : Prop where
  one : OneB g ρ
  lo : 0 ≤ ρ.iv 13
  hi : ρ.iv 13 ≤ g.n
  all : WorthAll g.f (ρ.iv 13).toNat
structure WorthBI2 (g : GD) (ρ : Env) : Prop where
  i : WorthBI g ρ
  all : WorthAll g.f g.n
theorem WorthBI.same {g : GD} {ρ ρ' : Env} (h : WorthBI g ρ) (hs : Same ρ ρ' [] []) : WorthBI g ρ' ∧ (g.n - ρ'.iv 13).toNat = (g.n - ρ.iv 13).toNat := by
  have e := iv_same hs (n := 13) rfl
  exact ⟨⟨h.one.same hs, by rw [e]; exact h.lo, by rw [e]; exact h.hi, by rw [e]; exact h.all⟩, by rw [e]⟩
theorem WorthBI.next {g : GD} {ρ : Env} (h : WorthBI g ρ) {σ : Sub} (h4 : (ρ.sub σ).iv 4 = ρ.iv 4) (h13 : (ρ.sub σ).iv 13 = ρ.iv 13 + 1) (c1 : -1000000 ≤ ρ.fn 1000 [ρ.iv 13] ∧ ρ.fn 1000 [ρ.iv 13] ≤ 1000000) (c2 : ρ.iv 13 < ρ.iv 4) : WorthBI g (ρ.sub σ) := by
  have hl := h.lo
  have hlen := h.one.len
  rw [h.one.el] at c1
  refine ⟨⟨h.one.std.sub σ, h4.trans hlen, h.one.small⟩, by rw [h13]; omega, by rw [h13]; omega, ?_⟩
  rw [h13]
  intro k hk
  by_cases hk' : k < (ρ.iv 13).toNat
  · exact h.all k hk'
  · have : k = (ρ.iv 13).toNat := by omega
    subst this
    exact c1
theorem WorthBI.bad {g : GD} {ρ : Env} (h : WorthBI g ρ) (c1 : ¬(-1000000 ≤ ρ.fn 1000 [ρ.iv 13] ∧ ρ.fn 1000 [ρ.iv 13] ≤ 1000000)) (c2 : ρ.iv 13 < ρ.iv 4) : pworth g.f g.n = 1 := by
  have hl := h.lo
  have hlen := h.one.len
  rw [h.one.el] at c1
  exact pworth_bad (k := (ρ.iv 13).toNat) (by omega) c1
theorem WorthBI.done {g : GD} {ρ : Env} (h : WorthBI g ρ) (c : ρ.iv 4 ≤ ρ.iv 13) : WorthAll g.f g.n := by
  have hlen := h.one.len
  have hh := h.hi
  have : (ρ.iv 13).toNat = g.n := by omega
  rw [← this]
  exact h.all
theorem oneb_start {g : GD} {w : World} (o : g.ok w) (hk : g.ks = [true]) (hn : g.n ≤ 9223372036854775807) (b : Bd) : ∃ ρ, OneB g ρ ∧ ρ.iv 13 = 0 ∧ Mem ρ (· < w.heap.size) w ∧ ∀ hi : Int, (hi = 9223372036854775807 → (SV.osl 0 [.int .i64 (-9223372036854775808) 9223372036854775807] ⟨.v 4, 0, hi⟩).ok ρ (· < 0) ∧ (SV.osl 0 [.int .i64 (-9223372036854775808) 9223372036854775807] ⟨.v 4, 0, hi⟩).den ρ b = .slice g.A g.n g.c) := by
  obtain ⟨⟨q1, q2, q3, q4⟩, q5⟩ := gen_osl (et := 23) (iv := fun n => match n with | 4 => g.n | _ => 0) (bv := fun _ => false) (fn := noF (one g)) (fb := noB (one g)) (fl := fun _ _ => []) (one_ok o) (k := 0) (m := 4) (sh := [.int .i64 (-9223372036854775808) 9223372036854775807]) (by show g.ks.map ckOf = _; rw [hk]; rfl) rfl (by show g.ks.length ≤ 100; rw [hk]; decide) (· < 0) b
  refine ⟨genEnv 23 (fun n => match n with | 4 => g.n | _ => 0) (fun _ => false) (noF (one g)) (noB (one g)) (fun _ _ => []) (one g), ⟨Std.gen () _ _ _, rfl, hn⟩, rfl, gen_mem (one_ok o), fun hi hh => ?_⟩
  subst hh
  exact ⟨⟨⟨q1.1, by show (g.n : Int) ≤ 9223372036854775807; omega⟩, by decide, q3, q4⟩, q5⟩
set_option maxRecDepth 100000 in
theorem refWorthB (g : GD) (hk : g.ks = [true]) (hn : g.n ≤ 9223372036854775807) (w : World) (o : g.ok w) :
    Calls Try.prog 147 #[.slice g.A g.n g.c] w fun e w' => e = .returned (.int .i64 (pworth g.f g.n)) ∧ Below w.heap.size w w' := by
  obtain ⟨ρ0, h0, h13, hm, hsl⟩ := oneb_start o hk hn ⟨fun _ => 0, fun _ => 0, fun _ => 0⟩
  obtain ⟨s1, s2⟩ := hsl 9223372036854775807 rfl
  have key := loop1_ret (P := Try.prog) (cfg := cfgK noSum rWKeeps 50 12) Try.func147 rfl (k := 2) (i := 0) (n := 5) (by decide +kernel) (by kernel_rfl) (args := rWArgs) (H := []) (nx := 0) rW_ran0 rW_defs0 rW_no0 rW_ran1 rW_defs1 rW_no1 rW_ran2 rW_defs2 rW_no2 (V := .int .i64 (pworth g.f g.n)) (OneB g) (WorthBI g) (WorthBI2 g) (fun ρ => (g.n - ρ.iv 13).toNat)
    (fun ρ h => ⟨h.std.et, noSum_ok _ _⟩) (fun ρ h => ⟨h.one.std.et, noSum_ok _ _⟩) (fun ρ ρ' h hs => h.same hs) (fun ρ ρ' h hs => h.same hs) (fun ρ h => h.i) (fun ρ ρ' h hs => ⟨(h.i.same hs).1, h.all⟩) (by kernel_rfl)
    (fun ρ h => List.forall_mem_cons.2 ⟨fit_of (z := ρ.iv 4) rfl (by have := h.len; show (0 : Int) ≤ ρ.iv 4; omega) (by have := h.len; have := h.small; show ρ.iv 4 ≤ 9223372036854775807; omega), fun _ h => nomatch h⟩)
    (fun ρ h => by
      have h1 := h.lo
      have h2 := h.hi
      have h3 := h.one.len
      have h4 := h.one.small
      refine List.forall_mem_cons.2 ⟨?_, List.forall_mem_cons.2 ⟨?_, fun _ h => nomatch h⟩⟩
      · exact fit_of (z := ρ.iv 13) rfl h1 (by show ρ.iv 13 ≤ 9223372036854775807; omega)
      · exact fit_of (z := ρ.iv 4) rfl (by show (0 : Int) ≤ ρ.iv 4; omega) (by show ρ.iv 4 ≤ 9223372036854775807; omega))
    (fun ρ h hv => trivial) (fun ρ h hv => trivial) (fun ρ h hv => trivial)
    (by
      refine List.forall_mem_cons.2 ⟨?_, fun _ h => nomatch h⟩
      intro ρ h _ _
      exact .inr ⟨rfl, rfl, ⟨h.std.sub _, h.len, h.small⟩, Int.le_refl _, Int.natCast_nonneg _, fun k hk => absurd hk (Nat.not_lt_zero k)⟩)
    (by
      refine List.forall_mem_cons.2 ⟨?_, List.forall_mem_cons.2 ⟨?_, List.forall_mem_cons.2 ⟨?_, fun _ h => nomatch h⟩⟩⟩
      · intro ρ h _ hp
        obtain ⟨c1, c2, _⟩ := Eq.mp (rW_1_pc0 ρ) hp
        simp only [Bool.not_eq_true', Bool.and_eq_false_iff, decide_eq_false_iff_not, decide_eq_true_eq] at c1 c2
        refine .inr (.inr ⟨rfl, List.forall_mem_cons.2 ⟨fit_const _ _, fun _ h => nomatch h⟩, [.int .i64 ⟨.c 1, 1, 1⟩], by kernel_rfl, fun b => ?_⟩)
        rw [h.bad (by omega) c2]
        rfl
      · intro ρ h _ hp
        obtain ⟨c1, c2, _⟩ := Eq.mp (rW_1_pc1 ρ) hp
        simp only [Bool.and_eq_true, decide_eq_true_eq] at c1 c2
        refine .inl ⟨rfl, rfl, h.next rfl (by show IntKind.wrap .i64 (ρ.iv 13 + 1) = ρ.iv 13 + 1; have h1 := h.lo; have h2 := h.hi; have h3 := h.one.len; have h4 := h.one.small; exact w64 _ (by omega) (by omega)) (by omega) c2, ?_⟩
        have h1 := h.hi
        have h3 := h.one.len
        have h4 := h.one.small
        have h5 := h.lo
        show (g.n - IntKind.wrap .i64 (ρ.iv 13 + 1)).toNat < (g.n - ρ.iv 13).toNat
        rw [w64 _ (by omega) (by omega)]
        omega
      · intro ρ h _ hp
        obtain ⟨c1, _⟩ := Eq.mp (rW_1_pc2 ρ) hp
        exact .inr (.inl ⟨rfl, rfl, ⟨⟨h.one.std.sub _, h.one.len, h.one.small⟩, h.lo, h.hi, h.all⟩, h.done (of_decide_eq_true c1)⟩))
    (by
      refine List.forall_mem_cons.2 ⟨?_, fun _ h => nomatch h⟩
      intro ρ h _ hp
      refine ⟨.inr rfl, List.forall_mem_cons.2 ⟨fit_const _ _, fun _ h => nomatch h⟩, [.int .i64 ⟨.c 0, 0, 0⟩], by kernel_rfl, fun b => ?_⟩
      rw [pworth_ok h.all]
      rfl)
    h0 ⟨fun _ => 0, fun _ => 0, fun _ => 0⟩ w (noHeap _ _ _ _) ⟨s1, trivial⟩ hm
  have e : SV.denL ρ0 ⟨fun _ => 0, fun _ => 0, fun _ => 0⟩ rWArgs = [.slice g.A g.n g.c] := by
    unfold rWArgs
    simp only [SV.denL]
    rw [s2]
  rw [e] at key
  exact key
end Go.Proofs.Ytdfpenjhpemokaa.Sx
