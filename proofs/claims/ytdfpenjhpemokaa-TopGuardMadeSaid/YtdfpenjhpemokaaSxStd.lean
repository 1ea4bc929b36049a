/-
  A verified symbolic executor: slices among the arguments, their elements ints and booleans: how they are given.
-/
import Derived.Test.YtdfpenjhpemokaaSxZ
import Derived.Test.YtdfpenjhpemokaaOpen2
import Derived.Test.YtdfpenjhpemokaaFlat
set_option linter.unusedVariables false
set_option linter.unusedSimpArgs false
namespace Go.Proofs.Ytdfpenjhpemokaa.Sx
open Go.RowKit

def cellsF (n s : Nat) (g : Nat → Nat → Value) : List Value := (List.range (n * s)).map fun q => g (q / s) (q % s)
structure GD where
  A : Option Addr
  c : Nat
  n : Nat
  ks : List Bool
  fi : Nat → Nat → Int
  fb : Nat → Nat → Bool
def GD.val (g : GD) (i j : Nat) : Value := match g.ks[j]? with
  | some true => .int .i64 (g.fi i j)
  | _ => .bool (g.fb i j)
structure GD.ok (g : GD) (w : World) : Prop where
  n : g.n ≤ 9223372036854775807
  cell : ∀ i j, i < g.n → j < g.ks.length → ∃ bl off, g.A = some ⟨bl, off, none⟩ ∧ bl < w.heap.size ∧ w.cell? ⟨bl, off + (i * g.ks.length + j), none⟩ = some (g.val i j)
  b64 : ∀ i j, B64 (g.fi i j)
def GD.none : GD := ⟨Option.none, 0, 0, [], fun _ _ => 0, fun _ _ => false⟩
open Go.ChangeShapes Go.WideShapes Go.ChangeAt Go.Deep in
theorem given_open {H : Type} {enc : TypeId × Value → H} {P : Program} {w : World} {base : Nat} {spare : Nat → Bool} {held : Bool} {t e : TypeId} {v : Value} {d : DataW H} {p : List MemPlace} (ks : List Bool) (h0 : 0 < ks.length) (ht : P.underlying t = some (.slice e)) (hk : P.cellsOf e = ks.length)
    (hQ : ∀ (n : Nat) (cs : List Value) (x : DataW H × List MemPlace), DataW.trod enc P w base spare held n e cs = some x → ∀ (j : Nat) (k : Bool), ks[j]? = some k → (k = true → ∃ y, cs[j]? = some (.int .i64 y) ∧ B64 y) ∧ (k = false → ∃ y, cs[j]? = some (.bool y)))
    {r : Reach} {b0 : Nat} (hv : Value.okWide P w r b0 t v) (h : DataW.Trod enc P w base spare held t v d p) :
    ∃ g : GD, g.ks = ks ∧ v = .slice g.A g.n g.c ∧ g.ok w := by
  obtain ⟨A, n, c, rfl, hnc, hcm, hs⟩ := slice_elems ks.length (fun cs => ∀ (j : Nat) (k : Bool), ks[j]? = some k → (k = true → ∃ y, cs[j]? = some (.int .i64 y) ∧ B64 y) ∧ (k = false → ∃ y, cs[j]? = some (.bool y))) ht hk h0 hQ hv h
  unfold maxLen at hcm
  have z64 : B64 0 := by unfold B64; omega
  rcases hs with rfl | ⟨b, off, rfl, hb, hcell⟩
  · exact ⟨⟨A, c, 0, ks, fun _ _ => 0, fun _ _ => false⟩, rfl, rfl, ⟨Nat.zero_le _, fun _ _ h => absurd h (Nat.not_lt_zero _), fun _ _ => z64⟩⟩
  · have hf : ∀ i j, ∃ f : Int × Bool, B64 f.1 ∧ (i < n → j < ks.length → w.cell? ⟨b, off + (i * ks.length + j), none⟩ = some (match ks[j]? with | some true => .int .i64 f.1 | _ => .bool f.2)) := by
      intro i j
      by_cases hi : i < n
      · by_cases hj : j < ks.length
        · obtain ⟨cs, _, hQ, hc⟩ := hcell i hi
          have hj' := List.getElem?_eq_getElem hj
          have h1 := hQ j _ hj'
          have h2 := hc j hj
          rw [Nat.add_assoc] at h2
          rw [hj']
          cases hb : ks[j] with
          | true =>
            obtain ⟨y, hy, hyb⟩ := h1.1 hb
            exact ⟨(y, false), hyb, fun _ _ => by rw [h2, hy]⟩
          | false =>
            obtain ⟨y, hy⟩ := h1.2 hb
            exact ⟨(0, y), z64, fun _ _ => by rw [h2, hy]⟩
        · exact ⟨(0, false), z64, fun _ h => absurd h hj⟩
      · exact ⟨(0, false), z64, fun h => absurd h hi⟩
    obtain ⟨f, hf⟩ := Classical.axiomOfChoice fun i => Classical.axiomOfChoice (hf i)
    exact ⟨⟨some ⟨b, off, none⟩, c, n, ks, fun i j => (f i j).1, fun i j => (f i j).2⟩, rfl, rfl, ⟨by show n ≤ _; omega, fun i j hi hj => ⟨b, off, rfl, hb, (hf i j).2 hi hj⟩, fun i j => (hf i j).1⟩⟩
end Go.Proofs.Ytdfpenjhpemokaa.Sx
/-
  A verified symbolic executor: small things for the laws that are cut at a loop.
-/
namespace Go.Proofs.Ytdfpenjhpemokaa.Sx
open Go.RowKit
open Go.ChangeShapes Go.WideShapes Go.ChangeAt Go.Deep in
theorem given_flat {H : Type} {enc : TypeId × Value → H} {P : Program} {w : World} {base : Nat} {spare : Nat → Bool} {held : Bool} {t e : TypeId} {v : Value} {d : DataW H} {p : List MemPlace} (ks : List Bool) (h0 : 0 < ks.length) (ht : P.underlying t = some (.slice e)) (hk : P.cellsOf e = ks.length) (hf : flatK P 10 e = some ks)
    {r : Reach} {b0 : Nat} (hv : Value.okWide P w r b0 t v) (h : DataW.Trod enc P w base spare held t v d p) :
    ∃ g : GD, g.ks = ks ∧ v = .slice g.A g.n g.c ∧ g.ok w := given_open ks h0 ht hk (fun n cs x hx => flatK_ok hf n cs x hx) hv h
end Go.Proofs.Ytdfpenjhpemokaa.Sx
/-
  A verified symbolic executor: contracts that read given slices; slices of slices among the arguments.
-/
namespace Go.Proofs.Ytdfpenjhpemokaa.Sx
open Go.RowKit

structure ND where
  A : Option Addr
  c : Nat
  n : Nat
  g : Nat → GD
structure ND.ok (d : ND) (w : World) (ks : List Bool) : Prop where
  n : d.n ≤ 9223372036854775807
  cell : ∀ i, i < d.n → ∃ bl off, d.A = some ⟨bl, off, none⟩ ∧ bl < w.heap.size ∧ w.cell? ⟨bl, off + i, none⟩ = some (.slice (d.g i).A (d.g i).n (d.g i).c)
  g : ∀ i, (d.g i).ok w ∧ (d.g i).ks = ks
end Go.Proofs.Ytdfpenjhpemokaa.Sx
/-
  A verified symbolic executor: functions over given slices of ints: what their names stand for; their contracts.
-/
namespace Go.Proofs.Ytdfpenjhpemokaa.Sx
open Go.RowKit

structure Std (fn : (Nat → GD) → Nat → List Int → Int) (fb : (Nat → GD) → Nat → List Int → Bool) (G : Nat → GD) (ρ : Env) : Prop where
  et : ρ.et = 23
  fn : ρ.fn = fun id l => if 1000 ≤ id then (G ((id - 1000) / 100)).fi (l.headD 0).toNat (id % 100) else fn G id l
  fb : ρ.fb = fun id l => if 1000 ≤ id then (G ((id - 1000) / 100)).fb (l.headD 0).toNat (id % 100) else fb G id l
  ov : ρ.ov = fun k => ((G k).A, (G k).c)
  mv : ρ.mv = fun k => cellsF (G k).n (G k).ks.length (G k).val
  ol : ρ.ol = fun k => (G k).n
variable {fn : (Nat → GD) → Nat → List Int → Int} {fb : (Nat → GD) → Nat → List Int → Bool} {G : Nat → GD}
theorem Std.same {ρ ρ' : Env} (h : Std fn fb G ρ) (hs : Same ρ ρ' [] []) : Std fn fb G ρ' := ⟨hs.et.trans h.et, hs.fn.trans h.fn, hs.fb.trans h.fb, hs.ov.trans h.ov, hs.mv.trans h.mv, hs.ol.trans h.ol⟩
theorem Std.sub {ρ : Env} (h : Std fn fb G ρ) (σ : Sub) : Std fn fb G (ρ.sub σ) := ⟨h.et, h.fn, h.fb, h.ov, h.mv, h.ol⟩
theorem Std.f {ρ : Env} (h : Std fn fb G ρ) {id : Nat} (hid : Nat.blt id 1000 = true) (l : List Int) : ρ.fn id l = fn G id l := by
  have := blt_lt hid
  rw [h.fn]
  simp only
  rw [if_neg (by omega)]
theorem Std.b {ρ : Env} (h : Std fn fb G ρ) {id : Nat} (hid : Nat.blt id 1000 = true) (l : List Int) : ρ.fb id l = fb G id l := by
  have := blt_lt hid
  rw [h.fb]
  simp only
  rw [if_neg (by omega)]
theorem Std.e {ρ : Env} (h : Std fn fb G ρ) {k j : Nat} (hj : Nat.blt j 100 = true) (i : Int) : ρ.fn (1000 + 100 * k + j) [i] = (G k).fi i.toNat j := by
  have := blt_lt hj
  rw [h.fn]
  simp only
  rw [if_pos (by omega)]
  have e2 : (1000 + 100 * k + j - 1000) / 100 = k := by omega
  have e3 : (1000 + 100 * k + j) % 100 = j := by omega
  rw [e2, e3]
  rfl
theorem Std.slice {ρ : Env} (h : Std fn fb G ρ) {b : Bd} {N : Nat → Prop} {k : Nat} {sh : List CK} {len : R} (hok : (SV.osl k sh len).ok ρ N) : (SV.osl k sh len).den ρ b = .slice (G k).A (G k).n (G k).c := by
  have e : len.e.i ρ = ((G k).n : Int) := by rw [hok.2.2.2, h.ol]
  simp only [SV.den, e, h.ov, Int.toNat_natCast]
def GD.f (g : GD) (i : Nat) : Int := g.fi i 0
def one (g : GD) : Nat → GD := fun k => match k with | 0 => g | _ => GD.none
def two (g h : GD) : Nat → GD := fun k => match k with | 0 => g | 1 => h | _ => GD.none
end Go.Proofs.Ytdfpenjhpemokaa.Sx
