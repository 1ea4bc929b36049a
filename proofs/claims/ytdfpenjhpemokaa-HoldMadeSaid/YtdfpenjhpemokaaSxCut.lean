/-
  A verified symbolic executor: a function cut in two, its state read anew between the halves.
-/
import Derived.Test.YtdfpenjhpemokaaSxZ
set_option linter.unusedVariables false
set_option linter.unusedSimpArgs false
namespace Go.Proofs.Ytdfpenjhpemokaa.Sx
open Go.RowKit
theorem calls_cut2 {P : Program} {f : FuncId} {args : Array Value} {w : World} {R : Ending → World → Prop} {fn : Func} (hf : P.funcs[f]? = some fn) (hb : fn.body.isSome = true) {k n : Nat} (hn : (partsOf P f).length ≤ n)
    (h : wpL P (partOf P f 0 k) (Exit.then (fun a w => wpL P (partOf P f k n) (bodyPost P fn R) a w) (bodyPost P fn R)) ⟨args ++ Array.replicate (fn.ntmps - args.size) undef, []⟩ w) : Calls P f args w R := by
  cases hbb : fn.body with
  | none => rw [hbb] at hb; cases hb
  | some body =>
    refine calls_of_wp hf hbb (wp_flat body ?_)
    have e : Code.flat body = partOf P f 0 k ++ partOf P f k n := by
      have e0 : partsOf P f = Code.flat body := by unfold partsOf; rw [hf]; simp only [hbb]
      unfold partOf
      rw [← e0]
      have e1 : ((partsOf P f).drop k).take (n - k) = (partsOf P f).drop k := List.take_of_length_le (by rw [List.length_drop]; omega)
      rw [e1, List.drop_zero, Nat.sub_zero, List.take_append_drop]
    rw [e, wpL_app]
    exact h
/-- A function without a loop, in two halves: what it hands back. -/
theorem cut_ret {P : Program} {et : TypeId} {cfg : Cfg} {f : FuncId} {fn : Func} (hf : P.funcs[f]? = some fn) (hb : fn.body.isSome = true) {k n : Nat} (hn : (partsOf P f).length ≤ n)
    {args : List SV} {H : List (Nat × HEnt)} {nx : Nat} {S1 : St} {L0 L1 : List LS} {V0 V1 W0 W1 : List VC}
    (r0 : ran (runP P et cfg f (partOf P f 0 k) (start P f args H nx)) L0 V0 = true) (d0 : defs V0 [] [] = W0) (n0 : W0.all VC.isNo = true)
    (r1 : ran (runP P et cfg f (partOf P f k n) S1) L1 V1 = true) (d1 : defs V1 [] [] = W1) (n1 : W1.all VC.isNo = true)
    {V : Value} (J I : Env → Prop)
    (hJ : ∀ ρ, J ρ → ρ.et = et ∧ HOK P ρ cfg.sum) (hI : ∀ ρ, I ρ → ρ.et = et ∧ HOK P ρ cfg.sum)
    (sJ : ∀ ρ ρ', J ρ → Same ρ ρ' [] [] → J ρ') (sI : ∀ ρ ρ', I ρ → Same ρ ρ' [] [] → I ρ')
    (self : (start P f args H nx).pat ⟨[], []⟩ (start P f args H nx) = true) (fit0 : ∀ ρ, J ρ → ∀ r ∈ (start P f args H nx).rs, r.fit ρ)
    (fit : ∀ ρ, I ρ → ∀ r ∈ S1.rs, r.fit ρ)
    (z0 : ∀ ρ, J ρ → saysL ρ V0 → andV ρ W0) (z1 : ∀ ρ, I ρ → saysL ρ V1 → andV ρ W1)
    (e0 : ∀ s ∈ L0, ∀ ρ, J ρ → saysL ρ V0 → andB ρ s.pc → (s.x = .ret ∧ (∀ r ∈ s.S.rs, r.fit (ρ.sub s.σ)) ∧ ∃ rs, resultsOf P f s.S = some rs ∧ ∀ b, (oneOrTup rs).den (ρ.sub s.σ) b = V) ∨ (s.x = .normal ∧ s.S = S1 ∧ I (ρ.sub s.σ)))
    (e1 : ∀ s ∈ L1, ∀ ρ, I ρ → saysL ρ V1 → andB ρ s.pc → (s.x = .normal ∨ s.x = .ret) ∧ (∀ r ∈ s.S.rs, r.fit (ρ.sub s.σ)) ∧ ∃ rs, resultsOf P f s.S = some rs ∧ ∀ b, (oneOrTup rs).den (ρ.sub s.σ) b = V)
    {ρ : Env} (hρ : J ρ) (b : Bd) (w : World) (hH : HRel ρ b (· < w.heap.size) w H (· < nx)) (ha : SV.okL ρ (· < nx) args) (hm : Mem ρ (· < w.heap.size) w) :
    Calls P f (SV.denL ρ b args).toArray w fun e w' => e = .returned V ∧ Below w.heap.size w w' := by
  obtain ⟨ρ1, hs1, hy1, hx1⟩ := defs_left d0 n0 ρ
  have hJ1 := sJ ρ ρ1 hρ hs1
  have hv1 := hx1 (allV_of (z0 ρ1 hJ1 hy1))
  refine calls_cut2 hf hb (k := k) hn ?_
  have hstart := St.pat_ok (Reads.of (σ := ⟨[], []⟩) hs1) self (fit0 ρ1 hJ1) (start_ok (ρ := ρ) (b := b) (w0 := w) hf hH hm (Kept.refl _ _) (fun k hk => hk) ha)
  refine wpL_mono ?_ _ _ (runP_ok r0 (hJ ρ1 hJ1).1 (hJ ρ1 hJ1).2 hv1 hstart)
  rintro e a1 w1 ⟨hd1, s, hs, rfl, hpc, b1, _, hrel1⟩
  rcases e0 s hs ρ1 hJ1 (saysL_of hv1) (andB_of hpc) with ⟨hx, hrs, rs, hret, hval⟩ | ⟨hx, hS, hI1⟩
  · rw [hx]
    simp only [XK.ex, Exit.then]
    have hr := hrel1 (ρ1.sub s.σ) (Reads.of ⟨fun _ _ => rfl, fun _ _ => rfl, rfl, rfl, rfl, rfl, rfl, rfl, rfl, rfl, rfl⟩) hrs
    exact ret_ok hf hret (.inr rfl) hd1 hr fun _ => ⟨by rw [hval], hr.below.below⟩
  · rw [hx]
    simp only [XK.ex, Exit.then]
    obtain ⟨ρ2, hs2, hy2, hx2⟩ := defs_left d1 n1 (ρ1.sub s.σ)
    have hI2 := sI _ _ hI1 hs2
    have hv2 := hx2 (allV_of (z1 ρ2 hI2 hy2))
    have hr2 := hrel1 ρ2 (Reads.of hs2) (by rw [hS]; exact fit ρ2 hI2)
    rw [hS] at hr2
    refine wpL_mono ?_ _ _ (runP_ok r1 (hI ρ2 hI2).1 (hI ρ2 hI2).2 hv2 hr2)
    rintro e a6 w6 ⟨hd6, u, hu, rfl, hpc6, b6, _, hrel6⟩
    obtain ⟨hx6, hrs6, rs, hret6, hval6⟩ := e1 u hu ρ2 hI2 (saysL_of hv2) (andB_of hpc6)
    have hr6 := hrel6 (ρ2.sub u.σ) (Reads.of ⟨fun _ _ => rfl, fun _ _ => rfl, rfl, rfl, rfl, rfl, rfl, rfl, rfl, rfl, rfl⟩) hrs6
    refine ret_ok hf hret6 ?_ (hd6.trans hd1) hr6 fun _ => ⟨by rw [hval6], hr6.below.below⟩
    rcases hx6 with h | h <;> rw [h]
    · exact .inl rfl
    · exact .inr rfl
end Go.Proofs.Ytdfpenjhpemokaa.Sx
