/-
  R.Spread: worked out. Written by a program of ours (wip/dev/sx).
-/
import Derived.Test.YtdfpenjhpemokaaShareA
import Derived.Test.YtdfpenjhpemokaaProg
import Derived.Test.YtdfpenjhpemokaaShareT
set_option linter.unusedVariables false
set_option linter.unusedSimpArgs false
namespace Go.Proofs.Ytdfpenjhpemokaa.Sx
end Go.Proofs.Ytdfpenjhpemokaa.Sx
/-
  R.Spread: worked out. Written by a program of ours (wip/dev/sx).
-/
namespace Go.Proofs.Ytdfpenjhpemokaa.Sx
end Go.Proofs.Ytdfpenjhpemokaa.Sx
/-
  R.Spread: worked out. Written by a program of ours (wip/dev/sx).
-/
namespace Go.Proofs.Ytdfpenjhpemokaa.Sx
end Go.Proofs.Ytdfpenjhpemokaa.Sx
/-
  R.Spread: worked out. Written by a program of ours (wip/dev/sx).
-/
namespace Go.Proofs.Ytdfpenjhpemokaa.Sx
end Go.Proofs.Ytdfpenjhpemokaa.Sx
/-
  R.Spread: what it answers, of one to four surfaces.
-/
namespace Go.Proofs.Ytdfpenjhpemokaa.Sx
open Go.RowKit
structure ShR (g : GD) (t r s c sum : Int) (ρ : Env) : Prop where
  b : ShB g t r s c sum ρ
  s15 : ρ.iv 15 = pclipS g t r sum
  low : -t ≤ ρ.iv 13
  high : ρ.iv 13 ≤ t
  above : ∀ x, ρ.iv 13 < x → x ≤ t → pclipS g t r sum < ptotS g t r x g.n
theorem ShR.same {g : GD} {t r s c sum : Int} {ρ ρ' : Env} (h : ShR g t r s c sum ρ) (hs : Same ρ ρ' [] []) : ShR g t r s c sum ρ' ∧ (ρ'.iv 13 + t).toNat = (ρ.iv 13 + t).toNat := by
  have e := iv_same hs (n := 13) rfl
  have e' := iv_same hs (n := 15) rfl
  exact ⟨⟨h.b.same hs, by rw [e']; exact h.s15, by rw [e]; exact h.low, by rw [e]; exact h.high, by rw [e]; exact h.above⟩, by rw [e]⟩
theorem ShR.lev {g : GD} {t r s c sum : Int} {ρ : Env} (h : ShR g t r s c sum ρ) (ht : 0 ≤ t) (he : ρ.iv 13 = -t ∨ ptotS g t r (ρ.iv 13) g.n ≤ pclipS g t r sum) : plvl g t r sum = ρ.iv 13 := by
  refine plev_eq (fun x y hxy => ptotS_mono g t r hxy g.n) ht h.low h.high he ?_
  by_cases hl : ρ.iv 13 = t
  · exact .inl hl
  · exact .inr (h.above _ (by omega) (by have := h.high; omega))
end Go.Proofs.Ytdfpenjhpemokaa.Sx
