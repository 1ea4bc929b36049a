/-
  A verified symbolic executor, part 1: terms over named numbers and booleans, their readings, small simplifications, bounds. No program in sight.
-/
import Derived.Calls
import Derived.IntWalk
import Derived.KernelRfl
set_option linter.unusedVariables false
set_option linter.unusedSimpArgs false
namespace Go.Proofs.Ytdfpenjhpemokaa.Sx

inductive UOp where
  | not | wrap (k : IntKind)
  deriving DecidableEq, Repr, Inhabited
inductive BOp where
  | add | sub | mul | quo | rem | div | mod | min | max | lt | le | eq | and | or | app
  deriving DecidableEq, Repr, Inhabited
/-- Terms: named numbers, named booleans, numbers, booleans, operations, choices, named functions of lists. -/
inductive E where
  | v (n : Nat) | bv (n : Nat) | c (z : Int) | bc (b : Bool)
  | un (o : UOp) (a : E) | bin (o : BOp) (a b : E) | ite (d a b : E)
  | ap (k : Nat) (a : E) | nil | cons (a b : E)
  deriving Repr, Inhabited

structure Env where
  iv : Nat → Int
  bv : Nat → Bool
  fn : Nat → List Int → Int
  fb : Nat → List Int → Bool
  et : TypeId
  ov : Nat → Option Addr × Nat
  fl : Nat → List Int → List Int := fun _ _ => []
  mv : Nat → List Value := fun _ => []
  es : Nat → Int → Option Addr × Nat × Nat := fun _ _ => (none, 0, 0)
  mn : Nat → Int → List Value := fun _ _ => []
  ol : Nat → Nat := fun _ => 0

mutual
def E.i (ρ : Env) : E → Int
  | .v n => ρ.iv n
  | .c z => z
  | .un (.wrap k) a => k.wrap (a.i ρ)
  | .bin .add a b => a.i ρ + b.i ρ
  | .bin .sub a b => a.i ρ - b.i ρ
  | .bin .mul a b => a.i ρ * b.i ρ
  | .bin .quo a b => (a.i ρ).tdiv (b.i ρ)
  | .bin .rem a b => (a.i ρ).tmod (b.i ρ)
  | .bin .div a b => a.i ρ / b.i ρ
  | .bin .mod a b => a.i ρ % b.i ρ
  | .bin .min a b => min (a.i ρ) (b.i ρ)
  | .bin .max a b => max (a.i ρ) (b.i ρ)
  | .ite d a b => if d.b ρ = true then a.i ρ else b.i ρ
  | .ap k a => ρ.fn k (a.l ρ)
  | _ => 0
def E.b (ρ : Env) : E → Bool
  | .bv n => ρ.bv n
  | .bc b => b
  | .un .not a => !(a.b ρ)
  | .bin .lt a b => decide (a.i ρ < b.i ρ)
  | .bin .le a b => decide (a.i ρ ≤ b.i ρ)
  | .bin .eq a b => decide (a.i ρ = b.i ρ)
  | .bin .and a b => a.b ρ && b.b ρ
  | .bin .or a b => a.b ρ || b.b ρ
  | .ite d a b => if d.b ρ = true then a.b ρ else b.b ρ
  | .ap k a => ρ.fb k (a.l ρ)
  | _ => false
def E.l (ρ : Env) : E → List Int
  | .cons a b => a.i ρ :: b.l ρ
  | .ap k a => ρ.fl k (a.l ρ)
  | .bin .app a b => a.l ρ ++ b.l ρ
  | .ite d a b => if d.b ρ = true then a.l ρ else b.l ρ
  | _ => []
end

/-- Are two terms the same text? -/
def E.same : E → E → Bool
  | .v m, .v n => m == n
  | .bv m, .bv n => m == n
  | .c m, .c n => m == n
  | .bc m, .bc n => m == n
  | .un o a, .un p b => decide (o = p) && a.same b
  | .bin o a b, .bin p a' b' => decide (o = p) && a.same a' && b.same b'
  | .ite a b d, .ite a' b' d' => a.same a' && b.same b' && d.same d'
  | .ap k a, .ap j b => k == j && a.same b
  | .nil, .nil => true
  | .cons a b, .cons a' b' => a.same a' && b.same b'
  | _, _ => false
theorem E.same_eq : ∀ {x y : E}, x.same y = true → x = y := by
  intro x
  induction x with
  | v m => intro y h; cases y <;> simp [E.same] at h; rw [h]
  | bv m => intro y h; cases y <;> simp [E.same] at h; rw [h]
  | c m => intro y h; cases y <;> simp [E.same] at h; rw [h]
  | bc m => intro y h; cases y <;> simp [E.same] at h; rw [h]
  | un o a iha => intro y h; cases y <;> simp [E.same] at h; rw [h.1, iha h.2]
  | bin o a b iha ihb => intro y h; cases y <;> simp [E.same] at h; rw [h.1.1, iha h.1.2, ihb h.2]
  | ite a b c iha ihb ihc => intro y h; cases y <;> simp [E.same] at h; rw [iha h.1.1, ihb h.1.2, ihc h.2]
  | ap k a iha => intro y h; cases y <;> simp [E.same] at h; rw [h.1, iha h.2]
  | nil => intro y h; cases y <;> simp [E.same] at h; rfl
  | cons a b iha ihb => intro y h; cases y <;> simp [E.same] at h; rw [iha h.1, ihb h.2]

def mkNot : E → E
  | .bc b => .bc (!b)
  | .un .not a => a
  | .bin .lt a b => .bin .le b a
  | .bin .le a b => .bin .lt b a
  | a => .un .not a
theorem mkNot_b (ρ : Env) (a : E) : (mkNot a).b ρ = !(a.b ρ) := by
  unfold mkNot
  split <;> (try simp [E.b])
  · rename_i a b; by_cases h : a.i ρ < b.i ρ <;> simp [h] <;> omega
  · rename_i a b; by_cases h : a.i ρ ≤ b.i ρ <;> simp [h] <;> omega

def mkAnd (a b : E) : E :=
  match a, b with
  | .bc true, b => b
  | .bc false, _ => .bc false
  | a, .bc true => a
  | _, .bc false => .bc false
  | a, b => if a.same b then a else .bin .and a b
theorem mkAnd_b (ρ : Env) (a b : E) : (mkAnd a b).b ρ = (a.b ρ && b.b ρ) := by
  unfold mkAnd
  split <;> (try simp [E.b])
  split
  · rename_i h; rw [E.same_eq h]; simp
  · rfl
def mkOr (a b : E) : E :=
  match a, b with
  | .bc true, _ => .bc true
  | .bc false, b => b
  | _, .bc true => .bc true
  | a, .bc false => a
  | a, b => if a.same b then a else .bin .or a b
theorem mkOr_b (ρ : Env) (a b : E) : (mkOr a b).b ρ = (a.b ρ || b.b ρ) := by
  unfold mkOr
  split <;> (try simp [E.b])
  split
  · rename_i h; rw [E.same_eq h]; simp
  · rfl
/-- A choice of booleans. -/
def mkIteB (d a b : E) : E :=
  if a.same b then a else
  match a, b with
  | .bc true, b => mkOr d b
  | .bc false, b => mkAnd (mkNot d) b
  | a, .bc true => mkOr (mkNot d) a
  | a, .bc false => mkAnd d a
  | a, b => .ite d a b
theorem mkIteB_b (ρ : Env) (d a b : E) : (mkIteB d a b).b ρ = if d.b ρ = true then a.b ρ else b.b ρ := by
  unfold mkIteB
  split
  · rename_i h; rw [E.same_eq h]; simp
  · split <;> simp [E.b, mkOr_b, mkAnd_b, mkNot_b] <;> cases d.b ρ <;> simp
/-- A choice of numbers. -/
def mkIteI (d a b : E) : E := if a.same b then a else .ite d a b
theorem mkIteI_i (ρ : Env) (d a b : E) : (mkIteI d a b).i ρ = if d.b ρ = true then a.i ρ else b.i ρ := by
  unfold mkIteI
  split
  · rename_i h; rw [E.same_eq h]; simp
  · simp [E.i]

def mkAdd (a b : E) : E :=
  match a, b with
  | .c x, .c y => .c (x + y)
  | .bin .add a (.c x), .c y => if x + y = 0 then a else .bin .add a (.c (x + y))
  | .bin .sub a (.c x), .c y => if x = y then a else .bin .sub a (.c (x - y))
  | a, .c y => if y = 0 then a else .bin .add a (.c y)
  | .c x, b => if x = 0 then b else .bin .add (.c x) b
  | a, b => .bin .add a b
theorem mkAdd_i (ρ : Env) (a b : E) : (mkAdd a b).i ρ = a.i ρ + b.i ρ := by
  unfold mkAdd
  split <;> (try split) <;> simp [E.i] <;> omega
def mkSub (a b : E) : E :=
  match a, b with
  | .c x, .c y => .c (x - y)
  | .bin .add a (.c x), .c y => if x = y then a else .bin .add a (.c (x - y))
  | .bin .sub a (.c x), .c y => .bin .sub a (.c (x + y))
  | a, .c y => if y = 0 then a else .bin .sub a (.c y)
  | a, b => if a.same b then .c 0 else .bin .sub a b
theorem mkSub_i (ρ : Env) (a b : E) : (mkSub a b).i ρ = a.i ρ - b.i ρ := by
  unfold mkSub
  split <;> (try split) <;> simp [E.i] <;> first | omega | (rename_i h; rw [E.same_eq h]; omega)
def mkMul (a b : E) : E :=
  match a, b with
  | .c x, .c y => .c (x * y)
  | a, .c y => if y = 1 then a else if y = 0 then .c 0 else .bin .mul a (.c y)
  | .c x, b => if x = 1 then b else if x = 0 then .c 0 else .bin .mul (.c x) b
  | a, b => .bin .mul a b
theorem mkMul_i (ρ : Env) (a b : E) : (mkMul a b).i ρ = a.i ρ * b.i ρ := by
  unfold mkMul
  split <;> (try split) <;> (try split) <;> simp_all [E.i]
def mkLt (a b : E) : E :=
  match a, b with
  | .c x, .c y => .bc (decide (x < y))
  | a, b => if a.same b then .bc false else .bin .lt a b
theorem mkLt_b (ρ : Env) (a b : E) : (mkLt a b).b ρ = decide (a.i ρ < b.i ρ) := by
  unfold mkLt
  split
  · rfl
  · split
    · rename_i h; rw [E.same_eq h]; simp [E.b]
    · rfl
def mkLe (a b : E) : E :=
  match a, b with
  | .c x, .c y => .bc (decide (x ≤ y))
  | a, b => if a.same b then .bc true else .bin .le a b
theorem mkLe_b (ρ : Env) (a b : E) : (mkLe a b).b ρ = decide (a.i ρ ≤ b.i ρ) := by
  unfold mkLe
  split
  · rfl
  · split
    · rename_i h; rw [E.same_eq h]; simp [E.b]
    · rfl
def mkEq (a b : E) : E :=
  match a, b with
  | .c x, .c y => .bc (decide (x = y))
  | a, b => if a.same b then .bc true else .bin .eq a b
theorem mkEq_b (ρ : Env) (a b : E) : (mkEq a b).b ρ = decide (a.i ρ = b.i ρ) := by
  unfold mkEq
  split
  · rfl
  · split
    · rename_i h; rw [E.same_eq h]; simp [E.b]
    · rfl
/-- Are two booleans the same? -/
def mkBeq (a b : E) : E := if a.same b then .bc true else mkIteB a b (mkNot b)
theorem mkBeq_b (ρ : Env) (a b : E) : (mkBeq a b).b ρ = (a.b ρ == b.b ρ) := by
  unfold mkBeq
  split
  · rename_i h; rw [E.same_eq h]; simp [E.b]
  · rw [mkIteB_b, mkNot_b]; cases a.b ρ <;> cases b.b ρ <;> rfl

/-! Numbers with bounds. -/
structure R where
  e : E
  lo : Int
  hi : Int
  deriving Repr, Inhabited
def R.ok (ρ : Env) (x : R) : Prop := x.lo ≤ x.e.i ρ ∧ x.e.i ρ ≤ x.hi

def kmin : IntKind → Int
  | .i8 => -128 | .i16 => -32768 | .i32 => -2147483648 | .i64 => -9223372036854775808 | _ => 0
def kmax : IntKind → Int
  | .i8 => 127 | .i16 => 32767 | .i32 => 2147483647 | .i64 => 9223372036854775807
  | .u8 => 255 | .u16 => 65535 | .u32 => 4294967295 | .u64 => 18446744073709551615
theorem wrap_in (k : IntKind) (n : Int) (h1 : kmin k ≤ n) (h2 : n ≤ kmax k) : k.wrap n = n := by
  cases k <;> simp only [kmin, kmax] at h1 h2
  · exact IntWalk.i8_in n ⟨h1, h2⟩
  · exact IntWalk.i16_in n ⟨h1, h2⟩
  · exact IntWalk.i32_in n ⟨h1, h2⟩
  · exact IntWalk.i64_in n ⟨h1, h2⟩
  · exact IntWalk.u8_in n ⟨h1, h2⟩
  · exact IntWalk.u16_in n ⟨h1, h2⟩
  · exact IntWalk.u32_in n ⟨h1, h2⟩
  · exact IntWalk.u64_in n ⟨h1, h2⟩
end Go.Proofs.Ytdfpenjhpemokaa.Sx
