/-
  Lists of any length: handlers.
-/
import Derived.Test.YtdfpenjhpemokaaLineTA
import Derived.Test.YtdfpenjhpemokaaHoldB
set_option linter.unusedVariables false
set_option linter.unusedSimpArgs false
namespace Go.Proofs.Ytdfpenjhpemokaa.Sx
open Go.RowKit
def unB (id : Nat) (lim : Int) (mk : R → SV) (args : List SV) : Option (List E × SV) := match args with
  | [.osl k [.int .i64 _ _] len] => some (geC len lim, mk ⟨.ap id (.cons (.c k) .nil), 0, 5⟩)
  | _ => none
def biB (id : Nat) (lim lim' : Int) (mk : R → SV) (args : List SV) : Option (List E × SV) := match args with
  | [.agg [.osl k [.int .i64 _ _] len, .osl m [.int .i64 _ _] len']] => some (geC len lim ++ geC len' lim', mk ⟨.ap id (.cons (.c k) (.cons (.c m) .nil)), 0, 5⟩)
  | _ => none
section
variable {fn : (Nat → GD) → Nat → List Int → Int} {fb : (Nat → GD) → Nat → List Int → Bool} {G : Nat → GD} {ρ : Env}
theorem size_of (h : Std fn fb G ρ) {N : Nat → Prop} {k : Nat} {sh : List CK} {len : R} {lim : Int} (h1 : (SV.osl k sh len).ok ρ N) (hg : ∀ g ∈ geC len lim, g.b ρ = true) : ((G k).n : Int) ≤ lim := by
  have e := h1.2.2.2
  rw [h.ol] at e
  have := geC_ok hg h1.1
  simp only at e
  omega
theorem unB_ok {P : Program} {F : FuncId} (h : Std fn fb G ρ) {w0 : World} (hG : ∀ k, (G k).ok w0) (hks : ∀ k, (G k).ks = [true]) {id : Nat} {lim : Int} (hid : Nat.blt id 1000 = true) {mk : R → SV} {mv : Int → Value} {φ : GD → Int}
    (hφ : ∀ k, fn G id [k] = φ (G k.toNat)) (hb : ∀ g, 0 ≤ φ g ∧ φ g ≤ 5) (hmk : ∀ r b, (mk r).den ρ b = mv (r.e.i ρ)) (hmo : ∀ r N, r.ok ρ → (mk r).ok ρ N)
    (hc : ∀ g w, g.ks = [true] → (g.n : Int) ≤ lim → g.ok w → Calls P F #[.slice g.A g.n g.c] w fun e w' => e = .returned (mv (φ g)) ∧ Below w.heap.size w w') : HOK P ρ (argSum F (unB id lim mk)) := by
  refine argSum_ok fun args gs v hp hg b base w N hok hm hbase => ?_
  unfold unB at hp
  split at hp
  · rename_i k lo hi len
    cases hp
    obtain ⟨h1, _⟩ := hok
    have e1 : (SV.denL ρ b [.osl k [.int .i64 lo hi] len]).toArray = #[.slice (G k).A (G k).n (G k).c] := by
      simp only [SV.denL]
      rw [h.slice h1]
    rw [e1]
    refine (hc (G k) w (hks k) (size_of h h1 hg) (h.row hG hm hbase k)).mono ?_
    rintro e w' ⟨h2, h3⟩
    have e2 : (E.ap id (.cons (.c k) .nil)).i ρ = φ (G k) := by
      simp only [E.i, E.l]
      rw [h.f hid, hφ, Int.toNat_natCast]
    refine ⟨by rw [h2, hmk, e2], hmo _ _ ?_, h3⟩
    unfold R.ok
    rw [e2]
    exact hb (G k)
  · cases hp
theorem biB_ok {P : Program} {F : FuncId} (h : Std fn fb G ρ) {w0 : World} (hG : ∀ k, (G k).ok w0) (hks : ∀ k, (G k).ks = [true]) {id : Nat} {lim lim' : Int} (hid : Nat.blt id 1000 = true) {mk : R → SV} {mv : Int → Value} {φ : GD → GD → Int}
    (hφ : ∀ k m, fn G id [k, m] = φ (G k.toNat) (G m.toNat)) (hb : ∀ g g', 0 ≤ φ g g' ∧ φ g g' ≤ 5) (hmk : ∀ r b, (mk r).den ρ b = mv (r.e.i ρ)) (hmo : ∀ r N, r.ok ρ → (mk r).ok ρ N)
    (hc : ∀ g g' w, g.ks = [true] → g'.ks = [true] → (g.n : Int) ≤ lim → (g'.n : Int) ≤ lim' → g.ok w → g'.ok w → Calls P F #[.agg #[.slice g.A g.n g.c, .slice g'.A g'.n g'.c]] w fun e w' => e = .returned (mv (φ g g')) ∧ Below w.heap.size w w') : HOK P ρ (argSum F (biB id lim lim' mk)) := by
  refine argSum_ok fun args gs v hp hg b base w N hok hm hbase => ?_
  unfold biB at hp
  split at hp
  · rename_i k lo hi len m lo' hi' len'
    cases hp
    obtain ⟨⟨h1, h1', _⟩, _⟩ := hok
    have e1 : (SV.denL ρ b [.agg [.osl k [.int .i64 lo hi] len, .osl m [.int .i64 lo' hi'] len']]).toArray = #[.agg #[.slice (G k).A (G k).n (G k).c, .slice (G m).A (G m).n (G m).c]] := by
      simp only [SV.denL, den_agg]
      rw [h.slice h1, h.slice h1']
    rw [e1]
    refine (hc (G k) (G m) w (hks k) (hks m) (size_of h h1 fun g hh => hg g (List.mem_append_left _ hh)) (size_of h h1' fun g hh => hg g (List.mem_append_right _ hh)) (h.row hG hm hbase k) (h.row hG hm hbase m)).mono ?_
    rintro e w' ⟨h2, h3⟩
    have e2 : (E.ap id (.cons (.c k) (.cons (.c m) .nil))).i ρ = φ (G k) (G m) := by
      simp only [E.i, E.l]
      rw [h.f hid, hφ, Int.toNat_natCast, Int.toNat_natCast]
    refine ⟨by rw [h2, hmk, e2], hmo _ _ ?_, h3⟩
    unfold R.ok
    rw [e2]
    exact hb _ _
  · cases hp
end
def lMSum : Handler := orSum (argSum 146 (unB 61 1000 (.int .i64))) (argSum 147 (unB 60 9223372036854775807 (.int .i64)))
def hRSum : Handler := argSum 78 (biB 62 1000 9223372036854775807 (.int .i64))
section
variable {G : Nat → GD} {ρ : Env} (h : Std lnF lnB G ρ) {w0 : World} (hG : ∀ k, (G k).ok w0) (hks : ∀ k, (G k).ks = [true])
include h hG hks
theorem lM_sum : HOK Try.prog ρ lMSum := orSum_ok
  (unB_ok h hG hks rfl (mv := fun z => .int .i64 z) (φ := fun g => prising g.f g.n) (fun k => rfl) (fun g => prising_bd _ _) (fun r b => rfl) (fun r N hr => hr) fun g w hk hn o => refRising g hk (by omega) w o)
  (unB_ok h hG hks rfl (mv := fun z => .int .i64 z) (φ := fun g => pworth g.f g.n) (fun k => rfl) (fun g => pworth_bd _ _) (fun r b => rfl) (fun r N hr => hr) fun g w hk hn o => refWorthB g hk (by omega) w o)
end
theorem osl_cut {k : Nat} {sh : List CK} {e : E} {h h' : Int} {ρ : Env} {N : Nat → Prop} {b : Bd} {v : Value} (a : (SV.osl k sh ⟨e, 0, h⟩).ok ρ N) (d : (SV.osl k sh ⟨e, 0, h⟩).den ρ b = v) (p : e.i ρ ≤ h') : (SV.osl k sh ⟨e, 0, h'⟩).ok ρ N ∧ (SV.osl k sh ⟨e, 0, h'⟩).den ρ b = v := by
  obtain ⟨q1, q2, q3, q4⟩ := a
  exact ⟨⟨⟨q1.1, p⟩, Int.le_refl (0 : Int), q3, q4⟩, by simp only [SV.den] at d ⊢; exact d⟩
end Go.Proofs.Ytdfpenjhpemokaa.Sx
