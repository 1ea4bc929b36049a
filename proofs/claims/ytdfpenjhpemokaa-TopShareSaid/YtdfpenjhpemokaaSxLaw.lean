/-
  A verified symbolic executor: a law (or a function) in one run, its arguments given by numbers, booleans and given slices.
-/
import Derived.Test.YtdfpenjhpemokaaSxStd
set_option linter.unusedVariables false
set_option linter.unusedSimpArgs false
namespace Go.Proofs.Ytdfpenjhpemokaa.Sx
open Go.RowKit

structure Jm (fn : (Nat → GD) → Nat → List Int → Int) (fb : (Nat → GD) → Nat → List Int → Bool) (G : Nat → GD) (m : Nat → Int) (q : Nat → Bool) (ρ : Env) : Prop where
  std : Std fn fb G ρ
  mn : ρ.mn = fun _ _ => []
  at_ : ∀ k, Nat.blt k 1000 = true → ρ.iv k = m k
  bt : ∀ k, Nat.blt k 1000 = true → ρ.bv k = q k
section
variable {fn : (Nat → GD) → Nat → List Int → Int} {fb : (Nat → GD) → Nat → List Int → Bool} {G : Nat → GD} {m : Nat → Int} {q : Nat → Bool}
theorem Jm.same {ρ ρ' : Env} (h : Jm fn fb G m q ρ) (hs : Same ρ ρ' [] []) : Jm fn fb G m q ρ' := ⟨h.std.same hs, hs.mn.trans h.mn, fun k hk => (iv_same hs hk).trans (h.at_ k hk), fun k hk => (bv_same hs hk).trans (h.bt k hk)⟩
theorem Jm.start (fn : (Nat → GD) → Nat → List Int → Int) (fb : (Nat → GD) → Nat → List Int → Bool) (G : Nat → GD) (m : Nat → Int) (q : Nat → Bool) : ∃ ρ, Jm fn fb G m q ρ := ⟨genEnv 23 m q (fn G) (fb G) (fun _ _ => []) G, Std.gen () _ _ _, rfl, fun _ _ => rfl, fun _ _ => rfl⟩
theorem Std.elem {ρ : Env} (h : Std fn fb G ρ) {w : World} (hG : ∀ k, (G k).ok w) {k i : Nat} (hi : i < (G k).n) (hks : (G k).ks.length ≤ 100) : CK.elem ρ ((G k).ks.map ckOf) k i := by
  intro j c hc
  rw [List.getElem?_map, Option.map_eq_some_iff] at hc
  obtain ⟨x, hx, rfl⟩ := hc
  have hj := (List.getElem?_eq_some_iff.1 hx).1
  have e1 : 1000 ≤ CK.fid k j := by unfold CK.fid; omega
  have e2 : (CK.fid k j - 1000) / 100 = k := by unfold CK.fid; omega
  have e3 : CK.fid k j % 100 = j := by unfold CK.fid; omega
  rw [List.length_map]
  refine ⟨?_, ?_⟩
  · rw [h.mv, cellsF_get hi hj]
    congr 1
    unfold GD.val
    rw [hx]
    cases x <;> simp [ckOf, CK.val, h.fn, h.fb, e1, e2, e3]
  · cases x
    · trivial
    · have := (hG k).b64 i j
      unfold B64 at this
      simpa [ckOf, CK.fits, h.fn, e1, e2, e3] using this
theorem Std.osl {ρ : Env} (h : Std fn fb G ρ) {w : World} (hG : ∀ k, (G k).ok w) {k : Nat} {sh : List CK} (hsh : (G k).ks.map ckOf = sh) (hks : (G k).ks.length ≤ 100) {e : E} {lo hi : Int} (he : e.i ρ = (G k).n) (h0 : 0 ≤ lo) (h1 : lo ≤ (G k).n) (h2 : ((G k).n : Int) ≤ hi) (N : Nat → Prop) (b : Bd) :
    (SV.osl k sh ⟨e, lo, hi⟩).ok ρ N ∧ (SV.osl k sh ⟨e, lo, hi⟩).den ρ b = .slice (G k).A (G k).n (G k).c := by
  subst hsh
  have hl : e.i ρ = ρ.ol k := by rw [he, h.ol]
  have hok : (SV.osl k ((G k).ks.map ckOf) ⟨e, lo, hi⟩).ok ρ N := ⟨⟨by show lo ≤ e.i ρ; rw [he]; exact h1, by show e.i ρ ≤ hi; rw [he]; exact h2⟩, h0, fun i hi' => h.elem hG (by simp only [he] at hi'; omega) hks, hl⟩
  exact ⟨hok, h.slice hok⟩
theorem Jm.mem {ρ : Env} (h : Jm fn fb G m q ρ) {w : World} (hG : ∀ k, (G k).ok w) : Mem ρ (· < w.heap.size) w := by
  refine ⟨?_, fun k i q v hv => by rw [h.mn] at hv; cases hv⟩
  intro k i v hv
  rw [h.std.mv] at hv
  obtain ⟨h1, h2, h3, h4⟩ := cellsF_of hv
  obtain ⟨bl, off, e1, e2, e3⟩ := (hG k).cell _ _ h1 h2
  rw [h.std.ov]
  exact ⟨bl, off, e1, e2, by rw [h4, h3]; exact e3⟩
end
end Go.Proofs.Ytdfpenjhpemokaa.Sx
