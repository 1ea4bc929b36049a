/-
  Lines: contracts of a line's functions; a line among the arguments.
-/
import Derived.Test.YtdfpenjhpemokaaLineC
set_option linter.unusedVariables false
set_option linter.unusedSimpArgs false
namespace Go.Proofs.Ytdfpenjhpemokaa.Sx
open Go.RowKit
section
variable {G : Nat → GD} {ρ : Env}
end
structure LBig (g h : GD) (x : Int) (ρ : Env) : Prop where
  std : Std lnF lnB (ltwo g h) ρ
  l4 : ρ.iv 4 = g.n
  l6 : ρ.iv 6 = h.n
  ex : ρ.iv 5 = x
  s4 : g.n ≤ 9223372036854775807
  s6 : h.n ≤ 9223372036854775807
theorem LBig.same {g h : GD} {x : Int} {ρ ρ' : Env} (a : LBig g h x ρ) (hs : Same ρ ρ' [] []) : LBig g h x ρ' := ⟨a.std.same hs, (iv_same hs (n := 4) rfl).trans a.l4, (iv_same hs (n := 6) rfl).trans a.l6, (iv_same hs (n := 5) rfl).trans a.ex, a.s4, a.s6⟩
theorem LBig.f {g h : GD} {x : Int} {ρ : Env} (a : LBig g h x ρ) (i : Int) : ρ.fn 1000 [i] = g.f i.toNat := a.std.e (k := 0) (j := 0) rfl i
theorem LBig.g {g h : GD} {x : Int} {ρ : Env} (a : LBig g h x ρ) (i : Int) : ρ.fn 1100 [i] = h.f i.toNat := a.std.e (k := 1) (j := 0) rfl i
end Go.Proofs.Ytdfpenjhpemokaa.Sx
namespace Go.Proofs.Ytdfpenjhpemokaa.Sx
open Go.ChangeShapes Go.WideShapes Go.ChangeAt Go.Deep Go.RowKit in
theorem gd_at {H : Type} {enc : TypeId × Value → H} {P : Program} {w : World} {base : Nat} {spare : Nat → Bool} {held : Bool} {s e : TypeId} {fu : Nat} {cs : List Value} {x : DataW H × List MemPlace} (ks : List Bool) (h0 : 0 < ks.length) (hs : P.underlying s = some (.slice e)) (hk : P.cellsOf e = ks.length) (hf : flatK P 10 e = some ks)
    (hx : DataW.trod enc P w base spare held fu s cs = some x) : ∃ g : GD, cs = [.slice g.A g.n g.c] ∧ g.ok w ∧ g.ks = ks := by
  obtain ⟨A, n, c, rfl, hnc, hcm, hs⟩ := slice_at ks.length (fun cs => ∀ (j : Nat) (k : Bool), ks[j]? = some k → (k = true → ∃ y, cs[j]? = some (.int .i64 y) ∧ B64 y) ∧ (k = false → ∃ y, cs[j]? = some (.bool y))) hs hk h0 (fun n cs x hx => flatK_ok hf n cs x hx) hx
  unfold maxLen at hcm
  have z64 : B64 0 := by unfold B64; omega
  rcases hs with rfl | ⟨b, off, rfl, hb, hcell⟩
  · exact ⟨⟨A, c, 0, ks, fun _ _ => 0, fun _ _ => false⟩, rfl, ⟨Nat.zero_le _, fun _ _ h => absurd h (Nat.not_lt_zero _), fun _ _ => z64⟩, rfl⟩
  · have hf : ∀ i j, ∃ f : Int × Bool, B64 f.1 ∧ (i < n → j < ks.length → w.cell? ⟨b, off + (i * ks.length + j), none⟩ = some (match ks[j]? with | some true => .int .i64 f.1 | _ => .bool f.2)) := by
      intro i j
      by_cases hi : i < n
      · by_cases hj : j < ks.length
        · obtain ⟨cs, _, hQ, hc⟩ := hcell i hi
          have hj' := List.getElem?_eq_getElem hj
          have h1 := hQ j _ hj'
          have h2 := hc j hj
          rw [Nat.add_assoc] at h2
          rw [hj']
          cases hb : ks[j] with
          | true =>
            obtain ⟨y, hy, hyb⟩ := h1.1 hb
            exact ⟨(y, false), hyb, fun _ _ => by rw [h2, hy]⟩
          | false =>
            obtain ⟨y, hy⟩ := h1.2 hb
            exact ⟨(0, y), z64, fun _ _ => by rw [h2, hy]⟩
        · exact ⟨(0, false), z64, fun _ h => absurd h hj⟩
      · exact ⟨(0, false), z64, fun h => absurd h hi⟩
    obtain ⟨f, hf⟩ := Classical.axiomOfChoice fun i => Classical.axiomOfChoice (hf i)
    exact ⟨⟨some ⟨b, off, none⟩, c, n, ks, fun i j => (f i j).1, fun i j => (f i j).2⟩, rfl, ⟨by show n ≤ _; omega, fun i j hi hj => ⟨b, off, rfl, hb, (hf i j).2 hi hj⟩, fun i j => (hf i j).1⟩, rfl⟩
end Go.Proofs.Ytdfpenjhpemokaa.Sx
