/-
  A verified symbolic executor, part 24: what the names of great terms stand for; a function from its start to its end.
-/
import Derived.Test.YtdfpenjhpemokaaSxW
set_option linter.unusedVariables false
set_option linter.unusedSimpArgs false
namespace Go.Proofs.Ytdfpenjhpemokaa.Sx
open Go.RowKit (Below)

def base0 : Nat := 1000
structure Same (ρ ρ' : Env) (D B : List Nat) : Prop where
  iv : ∀ n, n < base0 ∨ n ∈ D → ρ'.iv n = ρ.iv n
  bv : ∀ n, n < base0 ∨ n ∈ B → ρ'.bv n = ρ.bv n
  fn : ρ'.fn = ρ.fn
  fb : ρ'.fb = ρ.fb
  et : ρ'.et = ρ.et
  ov : ρ'.ov = ρ.ov
  fl : ρ'.fl = ρ.fl
  mv : ρ'.mv = ρ.mv
  es : ρ'.es = ρ.es
  mn : ρ'.mn = ρ.mn
  ol : ρ'.ol = ρ.ol
theorem blt_lt {n m : Nat} (h : Nat.blt n m = true) : n < m := by
  unfold Nat.blt at h
  exact Nat.le_of_ble_eq_true h
def VC.same (v u : VC) : Bool := sameEs v.pc u.pc && v.e.same u.e
theorem VC.same_eq {v u : VC} (h : v.same u = true) : v = u := by
  unfold VC.same at h
  rw [Bool.and_eq_true] at h
  have h1 := sameEs_eq h.1
  have h2 := E.same_eq h.2
  cases v; cases u; simp_all
end Go.Proofs.Ytdfpenjhpemokaa.Sx
/-
  A verified symbolic executor: a state taken as another one, its names read anew; loops by what holds at each round.
-/
namespace Go.Proofs.Ytdfpenjhpemokaa.Sx
open Go.RowKit (Below)

structure Sub where
  i : List (Nat × E)
  b : List (Nat × E)
def E.sub (σ : Sub) : E → E
  | .v n => (find σ.i n).getD (.v n)
  | .bv n => (find σ.b n).getD (.bv n)
  | .un o a => .un o (a.sub σ)
  | .bin o a b => .bin o (a.sub σ) (b.sub σ)
  | .ite d a b => .ite (d.sub σ) (a.sub σ) (b.sub σ)
  | .ap k a => .ap k (a.sub σ)
  | .cons a b => .cons (a.sub σ) (b.sub σ)
  | e => e
structure Reads (σ : Sub) (ρ ρ' : Env) : Prop where
  iv : ∀ n, n < base0 → ρ'.iv n = match find σ.i n with | some e => e.i ρ | none => ρ.iv n
  bv : ∀ n, n < base0 → ρ'.bv n = match find σ.b n with | some e => e.b ρ | none => ρ.bv n
  fn : ρ'.fn = ρ.fn
  fb : ρ'.fb = ρ.fb
  et : ρ'.et = ρ.et
  ov : ρ'.ov = ρ.ov
  fl : ρ'.fl = ρ.fl
  mv : ρ'.mv = ρ.mv
  es : ρ'.es = ρ.es
  mn : ρ'.mn = ρ.mn
  ol : ρ'.ol = ρ.ol
def Env.sub (σ : Sub) (ρ : Env) : Env := { ρ with iv := fun n => match find σ.i n with | some e => e.i ρ | none => ρ.iv n, bv := fun n => match find σ.b n with | some e => e.b ρ | none => ρ.bv n }
theorem Reads.of {σ : Sub} {ρ ρ' : Env} (h : Same (ρ.sub σ) ρ' [] []) : Reads σ ρ ρ' :=
  ⟨fun n hn => h.iv n (.inl hn), fun n hn => h.bv n (.inl hn), h.fn, h.fb, h.et, h.ov, h.fl, h.mv, h.es, h.mn, h.ol⟩
def E.sm : E → Nat → Bool
  | .v n, 0 => Nat.blt n base0
  | .c _, 0 => true
  | .un (.wrap _) a, 0 => a.sm 0
  | .bin .add a b, 0 | .bin .sub a b, 0 | .bin .mul a b, 0 | .bin .quo a b, 0 | .bin .rem a b, 0 | .bin .div a b, 0 | .bin .mod a b, 0 | .bin .min a b, 0 | .bin .max a b, 0 => a.sm 0 && b.sm 0
  | .ite d a b, 0 => d.sm 1 && a.sm 0 && b.sm 0
  | .ap _ a, 0 => a.sm 2
  | .bv n, 1 => Nat.blt n base0
  | .bc _, 1 => true
  | .un .not a, 1 => a.sm 1
  | .bin .lt a b, 1 | .bin .le a b, 1 | .bin .eq a b, 1 => a.sm 0 && b.sm 0
  | .bin .and a b, 1 | .bin .or a b, 1 => a.sm 1 && b.sm 1
  | .ite d a b, 1 => d.sm 1 && a.sm 1 && b.sm 1
  | .ap _ a, 1 => a.sm 2
  | .nil, 2 => true
  | .cons a b, 2 => a.sm 0 && b.sm 2
  | .ap _ a, 2 => a.sm 2
  | .bin .app a b, 2 => a.sm 2 && b.sm 2
  | .ite d a b, 2 => d.sm 1 && a.sm 2 && b.sm 2
  | _, _ => false
theorem E.sub_ok {σ : Sub} {ρ ρ' : Env} (h : Reads σ ρ ρ') : (e : E) → (e.sm 0 = true → e.i ρ' = (e.sub σ).i ρ) ∧ (e.sm 1 = true → e.b ρ' = (e.sub σ).b ρ) ∧ (e.sm 2 = true → e.l ρ' = (e.sub σ).l ρ) := by
  intro e
  induction e with
  | v n =>
    refine ⟨fun hs => ?_, fun hs => (by simp [E.sm] at hs), fun hs => (by simp [E.sm] at hs)⟩
    simp only [E.i, E.sub, h.iv n (blt_lt (by simpa [E.sm] using hs))]
    cases find σ.i n <;> rfl
  | bv n =>
    refine ⟨fun hs => (by simp [E.sm] at hs), fun hs => ?_, fun hs => (by simp [E.sm] at hs)⟩
    simp only [E.b, E.sub, h.bv n (blt_lt (by simpa [E.sm] using hs))]
    cases find σ.b n <;> rfl
  | c z => exact ⟨fun _ => rfl, fun _ => rfl, fun _ => rfl⟩
  | bc b => exact ⟨fun _ => rfl, fun _ => rfl, fun _ => rfl⟩
  | nil => exact ⟨fun _ => rfl, fun _ => rfl, fun _ => rfl⟩
  | un o a ih =>
    obtain ⟨h1, h2, h3⟩ := ih
    cases o <;> simp only [E.sm] <;> refine ⟨fun hs => ?_, fun hs => ?_, fun hs => ?_⟩ <;> first | (simp [E.i, E.b, E.sub, h1 hs]; done) | (simp [E.i, E.b, E.sub, h2 hs]; done) | (simp at hs; done)
  | bin o a b iha ihb =>
    obtain ⟨a1, a2, a3⟩ := iha
    obtain ⟨b1, b2, b3⟩ := ihb
    cases o <;> simp only [E.sm, Bool.and_eq_true] <;> refine ⟨fun hs => ?_, fun hs => ?_, fun hs => ?_⟩ <;> first | (simp [E.i, E.b, E.l, E.sub, a1 hs.1, b1 hs.2]; done) | (simp [E.i, E.b, E.l, E.sub, a2 hs.1, b2 hs.2]; done) | (simp [E.i, E.b, E.l, E.sub, a3 hs.1, b3 hs.2]; done) | (simp at hs; done)
  | ite d a b ihd iha ihb =>
    obtain ⟨d1, d2, d3⟩ := ihd
    obtain ⟨a1, a2, a3⟩ := iha
    obtain ⟨b1, b2, b3⟩ := ihb
    simp only [E.sm, Bool.and_eq_true]
    exact ⟨fun hs => by simp only [E.i, E.sub, d2 hs.1.1, a1 hs.1.2, b1 hs.2], fun hs => by simp only [E.b, E.sub, d2 hs.1.1, a2 hs.1.2, b2 hs.2], fun hs => by simp only [E.l, E.sub, d2 hs.1.1, a3 hs.1.2, b3 hs.2]⟩
  | ap k a ih =>
    obtain ⟨h1, h2, h3⟩ := ih
    simp only [E.sm]
    exact ⟨fun hs => by simp only [E.i, E.sub, h3 hs, h.fn], fun hs => by simp only [E.b, E.sub, h3 hs, h.fb], fun hs => by simp only [E.l, E.sub, h3 hs, h.fl]⟩
  | cons a b iha ihb =>
    obtain ⟨a1, a2, a3⟩ := iha
    obtain ⟨b1, b2, b3⟩ := ihb
    simp only [E.sm, Bool.and_eq_true]
    exact ⟨fun hs => absurd hs (by simp), fun hs => absurd hs (by simp), fun hs => by simp only [E.l, E.sub, a1 hs.1, b3 hs.2]⟩

theorem Reads.elem {σ : Sub} {ρ ρ' : Env} (h : Reads σ ρ ρ') (sh : List CK) (k i : Nat) : CK.elem ρ' sh k i ↔ CK.elem ρ sh k i := by
  have e : ∀ (c : CK) (j : Nat), c.val ρ' k j i = c.val ρ k j i ∧ (c.fits ρ' k j i ↔ c.fits ρ k j i) := fun c j => by
    cases c <;> simp [CK.val, CK.fits, Env.slc, h.fn, h.fb, h.es]
  unfold CK.elem
  simp only [h.mv, (e _ _).1, (e _ _).2]
def R.pat (σ : Sub) (y x : R) : Bool := y.e.sm 0 && (y.e.sub σ).same x.e
def R.fit (ρ : Env) (r : R) : Prop := r.lo ≤ r.e.i ρ ∧ r.e.i ρ ≤ r.hi
mutual
def SV.rs : SV → List R
  | .int _ r => [r]
  | .slv _ _ l => [l]
  | .osl _ _ l => [l]
  | .optr _ _ l _ => [l]
  | .err r => [r]
  | .ifc _ v => v.rs
  | .fn _ l => SV.rsL l
  | .agg l => SV.rsL l
  | .tup l => SV.rsL l
  | _ => []
def SV.rsL : List SV → List R
  | [] => []
  | a :: l => a.rs ++ SV.rsL l
end
mutual
def SV.pat (σ : Sub) : SV → SV → Bool
  | .int k y, .int j x => decide (k = j) && y.pat σ x
  | .bool y, .bool x => y.sm 1 && (y.sub σ).same x
  | .nilp, .nilp => true
  | .ptr n o, .ptr m p => Nat.beq n m && Nat.beq o p
  | .nils, .nils => true
  | .sl n o l c, .sl m p k d => Nat.beq n m && Nat.beq o p && Nat.beq l k && decide (c = d)
  | .slv n o l, .slv m p k => Nat.beq n m && Nat.beq o p && l.pat σ k && decide (0 ≤ l.lo)
  | .emp n, .emp m => Nat.beq n m
  | .osl n s l, .osl m t k => Nat.beq n m && decide (s = t) && l.pat σ k && decide (0 ≤ l.lo)
  | .esl n i, .esl m j => Nat.beq n m && i.sm 0 && (i.sub σ).same j
  | .optr n s l o, .optr m t k p => Nat.beq n m && decide (s = t) && l.pat σ k && Nat.beq o p
  | .nili, .nili => true
  | .ifc t v, .ifc u x => decide (t = u) && v.pat σ x
  | .err y, .err x => y.pat σ x
  | .nilf, .nilf => true
  | .fn f l, .fn g m => decide (f = g) && SV.patL σ l m
  | .agg l, .agg m => SV.patL σ l m
  | .tup l, .tup m => SV.patL σ l m
  | _, _ => false
def SV.patL (σ : Sub) : List SV → List SV → Bool
  | [], [] => true
  | a :: l, c :: m => a.pat σ c && SV.patL σ l m
  | _, _ => false
end
def St.pat (σ : Sub) (y x : St) : Bool :=
  Nat.beq y.nt x.nt
  && y.tmps.all (fun p => p.2.g.isEmpty && (p.2.sv.names.all fun m => Nat.blt m y.next) && match find x.tmps p.1 with | some e => e.g.isEmpty && p.2.sv.pat σ e.sv | none => false)
  && y.heap.all (fun p => p.2.g.isEmpty && Nat.blt p.1 y.next && ((SV.namesL p.2.blk.cells).all fun m => Nat.blt m y.next) && match find x.heap p.1 with | some e => e.g.isEmpty && decide (p.2.blk.kind = e.blk.kind) && decide (p.2.blk.elem = e.blk.elem) && SV.patL σ p.2.blk.cells e.blk.cells | none => false)
def St.rs (y : St) : List R := (y.tmps.flatMap fun p => p.2.sv.rs) ++ y.heap.flatMap fun p => SV.rsL p.2.blk.cells
end Go.Proofs.Ytdfpenjhpemokaa.Sx
/-
  A verified symbolic executor: pieces of code, whose ends are told; functions cut at a loop.
-/
namespace Go.Proofs.Ytdfpenjhpemokaa.Sx
open Go.RowKit (Below)

structure LS where
  pc : List E
  x : XK
  S : St
  σ : Sub
def T.leaves {α : Type} : List E → T α → List (List E × α)
  | pc, .leaf x => [(pc, x)]
  | pc, .node c t u => T.leaves (c :: pc) t ++ T.leaves (mkNot c :: pc) u
def LS.fits (s : LS) (l : List E × Lf) : Bool := sub s.pc l.1 && decide (s.x = l.2.x) && s.S.pat s.σ l.2.st
def start (P : Program) (f : FuncId) (args : List SV) (H : List (Nat × HEnt)) (nx : Nat) : St := match P.funcs[f]? with
  | some fn => ⟨argsT args, H, nx, args.length + (fn.ntmps - args.length)⟩
  | none => ⟨[], [], 0, 0⟩
end Go.Proofs.Ytdfpenjhpemokaa.Sx
