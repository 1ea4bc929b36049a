/-
  Lines: the program's and the reference's answers.
-/
import Derived.Test.YtdfpenjhpemokaaLineI
import Derived.Test.YtdfpenjhpemokaaLine2Run
set_option linter.unusedVariables false
set_option linter.unusedSimpArgs false
namespace Go.Proofs.Ytdfpenjhpemokaa.Sx
open Go.RowKit
structure LTwo (g h : GD) (x : Int) (ρ : Env) : Prop where
  std : Std lnF lnB (ltwo g h) ρ
  l4 : ρ.iv 4 = g.n
  l6 : ρ.iv 6 = h.n
  ex : ρ.iv 5 = x
  s4 : g.n ≤ 1000
  s6 : h.n ≤ 1000
theorem LTwo.same {g h : GD} {x : Int} {ρ ρ' : Env} (a : LTwo g h x ρ) (hs : Same ρ ρ' [] []) : LTwo g h x ρ' := ⟨a.std.same hs, (iv_same hs (n := 4) rfl).trans a.l4, (iv_same hs (n := 6) rfl).trans a.l6, (iv_same hs (n := 5) rfl).trans a.ex, a.s4, a.s6⟩
theorem LTwo.f {g h : GD} {x : Int} {ρ : Env} (a : LTwo g h x ρ) (i : Int) : ρ.fn 1000 [i] = g.f i.toNat := a.std.e (k := 0) (j := 0) rfl i
theorem LTwo.g {g h : GD} {x : Int} {ρ : Env} (a : LTwo g h x ρ) (i : Int) : ρ.fn 1100 [i] = h.f i.toNat := a.std.e (k := 1) (j := 0) rfl i
structure RLookI (g d : GD) (x : Int) (ρ : Env) : Prop where
  two : LTwo g d x ρ
  lo : 0 ≤ ρ.iv 13
  hi : ρ.iv 13 + 2 ≤ g.n
  first : g.f 0 < x
  last : x < g.f (g.n - 1)
  below : x < g.f ((ρ.iv 13).toNat + 1)
theorem RLookI.same {g d : GD} {x : Int} {ρ ρ' : Env} (h : RLookI g d x ρ) (hs : Same ρ ρ' [] []) : RLookI g d x ρ' ∧ (ρ'.iv 13).toNat = (ρ.iv 13).toNat := by
  have e := iv_same hs (n := 13) rfl
  exact ⟨⟨h.two.same hs, by rw [e]; exact h.lo, by rw [e]; exact h.hi, h.first, h.last, by rw [e]; exact h.below⟩, by rw [e]⟩
structure RisesI (g d : GD) (ρ : Env) : Prop where
  two : LTwo g d 0 ρ
  ok : pline g.f g.n d.f d.n = 0
  lo : 1 ≤ ρ.iv 13
  hi : ρ.iv 13 ≤ d.n
  all : ∀ k, k + 1 < (ρ.iv 13).toNat → d.f k ≤ d.f (k + 1)
theorem RisesI.same {g d : GD} {ρ ρ' : Env} (h : RisesI g d ρ) (hs : Same ρ ρ' [] []) : RisesI g d ρ' ∧ (d.n - ρ'.iv 13).toNat = (d.n - ρ.iv 13).toNat := by
  have e := iv_same hs (n := 13) rfl
  exact ⟨⟨h.two.same hs, h.ok, by rw [e]; exact h.lo, by rw [e]; exact h.hi, by rw [e]; exact h.all⟩, by rw [e]⟩
end Go.Proofs.Ytdfpenjhpemokaa.Sx
