/-
  A verified symbolic executor: small things for the laws that are cut at a loop.
-/
import Derived.Test.YtdfpenjhpemokaaSxGiven
import Derived.Test.YtdfpenjhpemokaaFlat
set_option linter.unusedVariables false
set_option linter.unusedSimpArgs false
namespace Go.Proofs.Ytdfpenjhpemokaa.Sx
open Go.RowKit
theorem iv_same {ρ ρ' : Env} (h : Same ρ ρ' [] []) {n : Nat} (hn : Nat.blt n 1000 = true) : ρ'.iv n = ρ.iv n := h.iv n (.inl (blt_lt hn))
theorem bv_same {ρ ρ' : Env} (h : Same ρ ρ' [] []) {n : Nat} (hn : Nat.blt n 1000 = true) : ρ'.bv n = ρ.bv n := h.bv n (.inl (blt_lt hn))
theorem fit_of {ρ : Env} {r : R} {z : Int} (h1 : r.e.i ρ = z) (h2 : r.lo ≤ z) (h3 : z ≤ r.hi) : r.fit ρ := by unfold R.fit; rw [h1]; exact ⟨h2, h3⟩
open Go.ChangeShapes Go.WideShapes Go.ChangeAt Go.Deep in
/-- A slice among the arguments, its elements of ints and booleans, however nested. -/
theorem given_flat {H : Type} {enc : TypeId × Value → H} {P : Program} {w : World} {base : Nat} {spare : Nat → Bool} {held : Bool} {t e : TypeId} {v : Value} {d : DataW H} {p : List MemPlace} (ks : List Bool) (h0 : 0 < ks.length) (ht : P.underlying t = some (.slice e)) (hk : P.cellsOf e = ks.length) (hf : flatK P 10 e = some ks)
    {r : Reach} {b0 : Nat} (hv : Value.okWide P w r b0 t v) (h : DataW.Trod enc P w base spare held t v d p) :
    ∃ g : GD, g.ks = ks ∧ v = .slice g.A g.n g.c ∧ g.ok w := given_open ks h0 ht hk (fun n cs x hx => flatK_ok hf n cs x hx) hv h
end Go.Proofs.Ytdfpenjhpemokaa.Sx
