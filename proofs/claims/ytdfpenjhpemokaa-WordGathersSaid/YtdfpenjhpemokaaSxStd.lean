/-
  A verified symbolic executor: slices among the arguments, their elements ints and booleans: how they are given.
-/
import Derived.Test.YtdfpenjhpemokaaSxZ
import Derived.Test.YtdfpenjhpemokaaOpen2
import Derived.Test.YtdfpenjhpemokaaFlat
set_option linter.unusedVariables false
set_option linter.unusedSimpArgs false
namespace Go.Proofs.Ytdfpenjhpemokaa.Sx
open Go.RowKit

def cellsF (n s : Nat) (g : Nat → Nat → Value) : List Value := (List.range (n * s)).map fun q => g (q / s) (q % s)
structure GD where
  A : Option Addr
  c : Nat
  n : Nat
  ks : List Bool
  fi : Nat → Nat → Int
  fb : Nat → Nat → Bool
def GD.val (g : GD) (i j : Nat) : Value := match g.ks[j]? with
  | some true => .int .i64 (g.fi i j)
  | _ => .bool (g.fb i j)
structure GD.ok (g : GD) (w : World) : Prop where
  n : g.n ≤ 9223372036854775807
  cell : ∀ i j, i < g.n → j < g.ks.length → ∃ bl off, g.A = some ⟨bl, off, none⟩ ∧ bl < w.heap.size ∧ w.cell? ⟨bl, off + (i * g.ks.length + j), none⟩ = some (g.val i j)
  b64 : ∀ i j, B64 (g.fi i j)
def GD.none : GD := ⟨Option.none, 0, 0, [], fun _ _ => 0, fun _ _ => false⟩
end Go.Proofs.Ytdfpenjhpemokaa.Sx
/-
  A verified symbolic executor: small things for the laws that are cut at a loop.
-/
namespace Go.Proofs.Ytdfpenjhpemokaa.Sx
open Go.RowKit
end Go.Proofs.Ytdfpenjhpemokaa.Sx
/-
  A verified symbolic executor: contracts that read given slices; slices of slices among the arguments.
-/
namespace Go.Proofs.Ytdfpenjhpemokaa.Sx
open Go.RowKit

structure ND where
  A : Option Addr
  c : Nat
  n : Nat
  g : Nat → GD
structure ND.ok (d : ND) (w : World) (ks : List Bool) : Prop where
  n : d.n ≤ 9223372036854775807
  cell : ∀ i, i < d.n → ∃ bl off, d.A = some ⟨bl, off, none⟩ ∧ bl < w.heap.size ∧ w.cell? ⟨bl, off + i, none⟩ = some (.slice (d.g i).A (d.g i).n (d.g i).c)
  g : ∀ i, (d.g i).ok w ∧ (d.g i).ks = ks
end Go.Proofs.Ytdfpenjhpemokaa.Sx
/-
  A verified symbolic executor: functions over given slices of ints: what their names stand for; their contracts.
-/
namespace Go.Proofs.Ytdfpenjhpemokaa.Sx
open Go.RowKit

structure Std (fn : (Nat → GD) → Nat → List Int → Int) (fb : (Nat → GD) → Nat → List Int → Bool) (G : Nat → GD) (ρ : Env) : Prop where
  et : ρ.et = 23
  fn : ρ.fn = fun id l => if 1000 ≤ id then (G ((id - 1000) / 100)).fi (l.headD 0).toNat (id % 100) else fn G id l
  fb : ρ.fb = fun id l => if 1000 ≤ id then (G ((id - 1000) / 100)).fb (l.headD 0).toNat (id % 100) else fb G id l
  ov : ρ.ov = fun k => ((G k).A, (G k).c)
  mv : ρ.mv = fun k => cellsF (G k).n (G k).ks.length (G k).val
  ol : ρ.ol = fun k => (G k).n
variable {fn : (Nat → GD) → Nat → List Int → Int} {fb : (Nat → GD) → Nat → List Int → Bool} {G : Nat → GD}
theorem Std.same {ρ ρ' : Env} (h : Std fn fb G ρ) (hs : Same ρ ρ' [] []) : Std fn fb G ρ' := ⟨hs.et.trans h.et, hs.fn.trans h.fn, hs.fb.trans h.fb, hs.ov.trans h.ov, hs.mv.trans h.mv, hs.ol.trans h.ol⟩
theorem Std.sub {ρ : Env} (h : Std fn fb G ρ) (σ : Sub) : Std fn fb G (ρ.sub σ) := ⟨h.et, h.fn, h.fb, h.ov, h.mv, h.ol⟩
theorem Std.f {ρ : Env} (h : Std fn fb G ρ) {id : Nat} (hid : Nat.blt id 1000 = true) (l : List Int) : ρ.fn id l = fn G id l := by
  have := blt_lt hid
  rw [h.fn]
  simp only
  rw [if_neg (by omega)]
theorem Std.b {ρ : Env} (h : Std fn fb G ρ) {id : Nat} (hid : Nat.blt id 1000 = true) (l : List Int) : ρ.fb id l = fb G id l := by
  have := blt_lt hid
  rw [h.fb]
  simp only
  rw [if_neg (by omega)]
theorem Std.e {ρ : Env} (h : Std fn fb G ρ) {k j : Nat} (hj : Nat.blt j 100 = true) (i : Int) : ρ.fn (1000 + 100 * k + j) [i] = (G k).fi i.toNat j := by
  have := blt_lt hj
  rw [h.fn]
  simp only
  rw [if_pos (by omega)]
  have e2 : (1000 + 100 * k + j - 1000) / 100 = k := by omega
  have e3 : (1000 + 100 * k + j) % 100 = j := by omega
  rw [e2, e3]
  rfl
theorem Std.slice {ρ : Env} (h : Std fn fb G ρ) {b : Bd} {N : Nat → Prop} {k : Nat} {sh : List CK} {len : R} (hok : (SV.osl k sh len).ok ρ N) : (SV.osl k sh len).den ρ b = .slice (G k).A (G k).n (G k).c := by
  have e : len.e.i ρ = ((G k).n : Int) := by rw [hok.2.2.2, h.ol]
  simp only [SV.den, e, h.ov, Int.toNat_natCast]
def GD.f (g : GD) (i : Nat) : Int := g.fi i 0
def one (g : GD) : Nat → GD := fun k => match k with | 0 => g | _ => GD.none
def two (g h : GD) : Nat → GD := fun k => match k with | 0 => g | 1 => h | _ => GD.none
end Go.Proofs.Ytdfpenjhpemokaa.Sx
