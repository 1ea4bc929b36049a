/-
  The law FixClips walked.
-/
import Derived.Test.YtalfgmhjnfnbeaaErr
import Derived.ProofKit
namespace Go.Proofs.Ytalfgmhjnfnbeaa
open Go.ChangeShapes Go.WideShapes Go.RowKit

theorem FixClips_core (x lo hi : Int) (w : World) : Calls Try.prog 3 #[.int .i64 x, .int .i64 lo, .int .i64 hi] w fun e w' => e = .returned (.bool true) ∧ w = w' := by
  by_cases h : lo ≤ hi
  · have h1 := pclip_min x lo hi h
    go_enter Try.func3, Try.ntmps3
    go_wp2_with (first | (go_at_call 15; refine (refClip _ _ _ _).mono ?_; rintro e w' ⟨rfl, rfl⟩) | (go_at_call 16; refine (fixClip _ _ _ _).mono ?_; rintro e w' ⟨rfl, rfl⟩))
    go_ret
    exact ⟨rfl, rfl⟩
  · have h1 : pclip x lo hi = lo := by unfold pclip; rw [if_pos (.inr (by omega))]
    go_enter Try.func3, Try.ntmps3
    go_wp2_with (first | (go_at_call 16; refine (fixClip _ _ _ _).mono ?_; rintro e w' ⟨rfl, rfl⟩))
    go_ret
    exact ⟨rfl, rfl⟩

set_option maxRecDepth 100000 in
theorem walkFixClips {H : Type} (W : World) (base : Nat) (enc : TypeId × Value → H) (v0 v1 v2 : Value) {d0 d1 d2 : DataW H} {p0 p1 p2 : List MemPlace}
    (k0 : Value.okWide Try.prog W .any base 3 v0) (k1 : Value.okWide Try.prog W .any base 3 v1) (k2 : Value.okWide Try.prog W .any base 3 v2)
    (h0 : DataW.Trod enc Try.prog W 0 (fun _ => true) true 3 v0 d0 p0) (h1 : DataW.Trod enc Try.prog W 0 (fun _ => true) true 3 v1 d1 p1) (h2 : DataW.Trod enc Try.prog W 0 (fun _ => true) true 3 v2 d2 p2) :
    Calls Try.prog 3 #[v0, v1, v2] W fun e W' => e = .returned (.bool true) ∧ Below W.heap.size W W' := by
  obtain ⟨a0, rfl, _, _, _⟩ := open_int Try.underlying3 k0 h0
  obtain ⟨a1, rfl, _, _, _⟩ := open_int Try.underlying3 k1 h1
  obtain ⟨a2, rfl, _, _, _⟩ := open_int Try.underlying3 k2 h2
  refine (FixClips_core a0 a1 a2 W).mono ?_
  rintro e w' ⟨rfl, rfl⟩
  exact ⟨rfl, Below.refl _ _⟩
end Go.Proofs.Ytalfgmhjnfnbeaa
