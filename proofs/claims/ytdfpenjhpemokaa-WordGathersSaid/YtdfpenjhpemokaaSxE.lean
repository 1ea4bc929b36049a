/-
  A verified symbolic executor, part 1: terms over named numbers and booleans, their readings, small simplifications, bounds. No program in sight.
-/
import Derived.Calls
import Derived.IntWalk
import Derived.KernelRfl
import Derived.Below
import Derived.Laws.World
import Derived.Laws.AppendOwn
import Derived.Laws.Cells
import Derived.Laws.Entries
set_option linter.unusedVariables false
set_option linter.unusedSimpArgs false
namespace Go.Proofs.Ytdfpenjhpemokaa.Sx

inductive UOp where
  | not | wrap (k : IntKind)
  deriving DecidableEq, Repr, Inhabited
inductive BOp where
  | add | sub | mul | quo | rem | div | mod | min | max | lt | le | eq | and | or | app
  deriving DecidableEq, Repr, Inhabited
inductive E where
  | v (n : Nat) | bv (n : Nat) | c (z : Int) | bc (b : Bool)
  | un (o : UOp) (a : E) | bin (o : BOp) (a b : E) | ite (d a b : E)
  | ap (k : Nat) (a : E) | nil | cons (a b : E)
  deriving Repr, Inhabited

structure Env where
  iv : Nat → Int
  bv : Nat → Bool
  fn : Nat → List Int → Int
  fb : Nat → List Int → Bool
  et : TypeId
  ov : Nat → Option Addr × Nat
  fl : Nat → List Int → List Int := fun _ _ => []
  mv : Nat → List Value := fun _ => []
  es : Nat → Int → Option Addr × Nat × Nat := fun _ _ => (none, 0, 0)
  mn : Nat → Int → List Value := fun _ _ => []
  ol : Nat → Nat := fun _ => 0

mutual
def E.i (ρ : Env) : E → Int
  | .v n => ρ.iv n
  | .c z => z
  | .un (.wrap k) a => k.wrap (a.i ρ)
  | .bin .add a b => a.i ρ + b.i ρ
  | .bin .sub a b => a.i ρ - b.i ρ
  | .bin .mul a b => a.i ρ * b.i ρ
  | .bin .quo a b => (a.i ρ).tdiv (b.i ρ)
  | .bin .rem a b => (a.i ρ).tmod (b.i ρ)
  | .bin .div a b => a.i ρ / b.i ρ
  | .bin .mod a b => a.i ρ % b.i ρ
  | .bin .min a b => min (a.i ρ) (b.i ρ)
  | .bin .max a b => max (a.i ρ) (b.i ρ)
  | .ite d a b => if d.b ρ = true then a.i ρ else b.i ρ
  | .ap k a => ρ.fn k (a.l ρ)
  | _ => 0
def E.b (ρ : Env) : E → Bool
  | .bv n => ρ.bv n
  | .bc b => b
  | .un .not a => !(a.b ρ)
  | .bin .lt a b => decide (a.i ρ < b.i ρ)
  | .bin .le a b => decide (a.i ρ ≤ b.i ρ)
  | .bin .eq a b => decide (a.i ρ = b.i ρ)
  | .bin .and a b => a.b ρ && b.b ρ
  | .bin .or a b => a.b ρ || b.b ρ
  | .ite d a b => if d.b ρ = true then a.b ρ else b.b ρ
  | .ap k a => ρ.fb k (a.l ρ)
  | _ => false
def E.l (ρ : Env) : E → List Int
  | .cons a b => a.i ρ :: b.l ρ
  | .ap k a => ρ.fl k (a.l ρ)
  | .bin .app a b => a.l ρ ++ b.l ρ
  | .ite d a b => if d.b ρ = true then a.l ρ else b.l ρ
  | _ => []
end

def E.same : E → E → Bool
  | .v m, .v n => m == n
  | .bv m, .bv n => m == n
  | .c m, .c n => m == n
  | .bc m, .bc n => m == n
  | .un o a, .un p b => decide (o = p) && a.same b
  | .bin o a b, .bin p a' b' => decide (o = p) && a.same a' && b.same b'
  | .ite a b d, .ite a' b' d' => a.same a' && b.same b' && d.same d'
  | .ap k a, .ap j b => k == j && a.same b
  | .nil, .nil => true
  | .cons a b, .cons a' b' => a.same a' && b.same b'
  | _, _ => false
theorem E.same_eq : ∀ {x y : E}, x.same y = true → x = y := by
  intro x
  induction x with
  | v m => intro y h; cases y <;> simp [E.same] at h; rw [h]
  | bv m => intro y h; cases y <;> simp [E.same] at h; rw [h]
  | c m => intro y h; cases y <;> simp [E.same] at h; rw [h]
  | bc m => intro y h; cases y <;> simp [E.same] at h; rw [h]
  | un o a iha => intro y h; cases y <;> simp [E.same] at h; rw [h.1, iha h.2]
  | bin o a b iha ihb => intro y h; cases y <;> simp [E.same] at h; rw [h.1.1, iha h.1.2, ihb h.2]
  | ite a b c iha ihb ihc => intro y h; cases y <;> simp [E.same] at h; rw [iha h.1.1, ihb h.1.2, ihc h.2]
  | ap k a iha => intro y h; cases y <;> simp [E.same] at h; rw [h.1, iha h.2]
  | nil => intro y h; cases y <;> simp [E.same] at h; rfl
  | cons a b iha ihb => intro y h; cases y <;> simp [E.same] at h; rw [iha h.1, ihb h.2]

def mkNot : E → E
  | .bc b => .bc (!b)
  | .un .not a => a
  | .bin .lt a b => .bin .le b a
  | .bin .le a b => .bin .lt b a
  | a => .un .not a
theorem mkNot_b (ρ : Env) (a : E) : (mkNot a).b ρ = !(a.b ρ) := by
  unfold mkNot
  split <;> (try simp [E.b])
  · rename_i a b; by_cases h : a.i ρ < b.i ρ <;> simp [h] <;> omega
  · rename_i a b; by_cases h : a.i ρ ≤ b.i ρ <;> simp [h] <;> omega

def mkAnd (a b : E) : E :=
  match a, b with
  | .bc true, b => b
  | .bc false, _ => .bc false
  | a, .bc true => a
  | _, .bc false => .bc false
  | a, b => if a.same b then a else .bin .and a b
theorem mkAnd_b (ρ : Env) (a b : E) : (mkAnd a b).b ρ = (a.b ρ && b.b ρ) := by
  unfold mkAnd
  split <;> (try simp [E.b])
  split
  · rename_i h; rw [E.same_eq h]; simp
  · rfl
def mkOr (a b : E) : E :=
  match a, b with
  | .bc true, _ => .bc true
  | .bc false, b => b
  | _, .bc true => .bc true
  | a, .bc false => a
  | a, b => if a.same b then a else .bin .or a b
theorem mkOr_b (ρ : Env) (a b : E) : (mkOr a b).b ρ = (a.b ρ || b.b ρ) := by
  unfold mkOr
  split <;> (try simp [E.b])
  split
  · rename_i h; rw [E.same_eq h]; simp
  · rfl
def mkIteB (d a b : E) : E :=
  if a.same b then a else
  match a, b with
  | .bc true, b => mkOr d b
  | .bc false, b => mkAnd (mkNot d) b
  | a, .bc true => mkOr (mkNot d) a
  | a, .bc false => mkAnd d a
  | a, b => .ite d a b
theorem mkIteB_b (ρ : Env) (d a b : E) : (mkIteB d a b).b ρ = if d.b ρ = true then a.b ρ else b.b ρ := by
  unfold mkIteB
  split
  · rename_i h; rw [E.same_eq h]; simp
  · split <;> simp [E.b, mkOr_b, mkAnd_b, mkNot_b] <;> cases d.b ρ <;> simp
def mkAdd (a b : E) : E :=
  match a, b with
  | .c x, .c y => .c (x + y)
  | .bin .add a (.c x), .c y => if x + y = 0 then a else .bin .add a (.c (x + y))
  | .bin .sub a (.c x), .c y => if x = y then a else .bin .sub a (.c (x - y))
  | a, .c y => if y = 0 then a else .bin .add a (.c y)
  | .c x, b => if x = 0 then b else .bin .add (.c x) b
  | a, b => .bin .add a b
theorem mkAdd_i (ρ : Env) (a b : E) : (mkAdd a b).i ρ = a.i ρ + b.i ρ := by
  unfold mkAdd
  split <;> (try split) <;> simp [E.i] <;> omega
def mkSub (a b : E) : E :=
  match a, b with
  | .c x, .c y => .c (x - y)
  | .bin .add a (.c x), .c y => if x = y then a else .bin .add a (.c (x - y))
  | .bin .sub a (.c x), .c y => .bin .sub a (.c (x + y))
  | a, .c y => if y = 0 then a else .bin .sub a (.c y)
  | a, b => if a.same b then .c 0 else .bin .sub a b
theorem mkSub_i (ρ : Env) (a b : E) : (mkSub a b).i ρ = a.i ρ - b.i ρ := by
  unfold mkSub
  split <;> (try split) <;> simp [E.i] <;> first | omega | (rename_i h; rw [E.same_eq h]; omega)
def mkMul (a b : E) : E :=
  match a, b with
  | .c x, .c y => .c (x * y)
  | a, .c y => if y = 1 then a else if y = 0 then .c 0 else .bin .mul a (.c y)
  | .c x, b => if x = 1 then b else if x = 0 then .c 0 else .bin .mul (.c x) b
  | a, b => .bin .mul a b
theorem mkMul_i (ρ : Env) (a b : E) : (mkMul a b).i ρ = a.i ρ * b.i ρ := by
  unfold mkMul
  split <;> (try split) <;> (try split) <;> simp_all [E.i]
def mkLt (a b : E) : E :=
  match a, b with
  | .c x, .c y => .bc (decide (x < y))
  | a, b => if a.same b then .bc false else .bin .lt a b
theorem mkLt_b (ρ : Env) (a b : E) : (mkLt a b).b ρ = decide (a.i ρ < b.i ρ) := by
  unfold mkLt
  split
  · rfl
  · split
    · rename_i h; rw [E.same_eq h]; simp [E.b]
    · rfl
def mkLe (a b : E) : E :=
  match a, b with
  | .c x, .c y => .bc (decide (x ≤ y))
  | a, b => if a.same b then .bc true else .bin .le a b
theorem mkLe_b (ρ : Env) (a b : E) : (mkLe a b).b ρ = decide (a.i ρ ≤ b.i ρ) := by
  unfold mkLe
  split
  · rfl
  · split
    · rename_i h; rw [E.same_eq h]; simp [E.b]
    · rfl
def mkEq (a b : E) : E :=
  match a, b with
  | .c x, .c y => .bc (decide (x = y))
  | a, b => if a.same b then .bc true else .bin .eq a b
theorem mkEq_b (ρ : Env) (a b : E) : (mkEq a b).b ρ = decide (a.i ρ = b.i ρ) := by
  unfold mkEq
  split
  · rfl
  · split
    · rename_i h; rw [E.same_eq h]; simp [E.b]
    · rfl
def mkBeq (a b : E) : E := if a.same b then .bc true else mkIteB a b (mkNot b)
theorem mkBeq_b (ρ : Env) (a b : E) : (mkBeq a b).b ρ = (a.b ρ == b.b ρ) := by
  unfold mkBeq
  split
  · rename_i h; rw [E.same_eq h]; simp [E.b]
  · rw [mkIteB_b, mkNot_b]; cases a.b ρ <;> cases b.b ρ <;> rfl

structure R where
  e : E
  lo : Int
  hi : Int
  deriving Repr, Inhabited
def R.ok (ρ : Env) (x : R) : Prop := x.lo ≤ x.e.i ρ ∧ x.e.i ρ ≤ x.hi

def kmin : IntKind → Int
  | .i8 => -128 | .i16 => -32768 | .i32 => -2147483648 | .i64 => -9223372036854775808 | _ => 0
def kmax : IntKind → Int
  | .i8 => 127 | .i16 => 32767 | .i32 => 2147483647 | .i64 => 9223372036854775807
  | .u8 => 255 | .u16 => 65535 | .u32 => 4294967295 | .u64 => 18446744073709551615
theorem wrap_in (k : IntKind) (n : Int) (h1 : kmin k ≤ n) (h2 : n ≤ kmax k) : k.wrap n = n := by
  cases k <;> simp only [kmin, kmax] at h1 h2
  · exact IntWalk.i8_in n ⟨h1, h2⟩
  · exact IntWalk.i16_in n ⟨h1, h2⟩
  · exact IntWalk.i32_in n ⟨h1, h2⟩
  · exact IntWalk.i64_in n ⟨h1, h2⟩
  · exact IntWalk.u8_in n ⟨h1, h2⟩
  · exact IntWalk.u16_in n ⟨h1, h2⟩
  · exact IntWalk.u32_in n ⟨h1, h2⟩
  · exact IntWalk.u64_in n ⟨h1, h2⟩
end Go.Proofs.Ytdfpenjhpemokaa.Sx
/-
  A verified symbolic executor, part 2: numbers with bounds; symbolic values, their readings. No program in sight.
-/
namespace Go.Proofs.Ytdfpenjhpemokaa.Sx

theorem wrap_bd (k : IntKind) (n : Int) : kmin k ≤ k.wrap n ∧ k.wrap n ≤ kmax k := by
  cases k <;> simp only [kmin, kmax, IntKind.wrap, IntKind.signed, IntKind.bits] <;> (constructor <;> (simp; try split) <;> omega)

def fit (k : IntKind) (e : E) (lo hi : Int) : R :=
  if kmin k ≤ lo ∧ hi ≤ kmax k then (if lo = hi then ⟨.c lo, lo, hi⟩ else ⟨e, lo, hi⟩) else ⟨.un (.wrap k) e, kmin k, kmax k⟩
theorem fit_ok (ρ : Env) (k : IntKind) (e : E) (lo hi : Int) (h1 : lo ≤ e.i ρ) (h2 : e.i ρ ≤ hi) : (fit k e lo hi).ok ρ ∧ (fit k e lo hi).e.i ρ = k.wrap (e.i ρ) := by
  unfold fit
  split
  · rename_i h
    rw [wrap_in k _ (by omega) (by omega)]
    split
    · rename_i hl; subst hl
      exact ⟨⟨Int.le_refl _, Int.le_refl _⟩, by show lo = _; omega⟩
    · exact ⟨⟨h1, h2⟩, rfl⟩
  · exact ⟨wrap_bd k _, rfl⟩

def imin (a b : Int) : Int := if a ≤ b then a else b
def imax (a b : Int) : Int := if a ≤ b then b else a
theorem imin_l (a b : Int) : imin a b ≤ a := by unfold imin; split <;> omega
theorem imin_r (a b : Int) : imin a b ≤ b := by unfold imin; split <;> omega
theorem imax_l (a b : Int) : a ≤ imax a b := by unfold imax; split <;> omega
theorem imax_r (a b : Int) : b ≤ imax a b := by unfold imax; split <;> omega

theorem mul_bd {a b al ah bl bh : Int} (h1 : al ≤ a) (h2 : a ≤ ah) (h3 : bl ≤ b) (h4 : b ≤ bh) :
    imin (imin (al * bl) (al * bh)) (imin (ah * bl) (ah * bh)) ≤ a * b ∧ a * b ≤ imax (imax (al * bl) (al * bh)) (imax (ah * bl) (ah * bh)) := by
  have key : ∀ x : Int, imin (x * bl) (x * bh) ≤ x * b ∧ x * b ≤ imax (x * bl) (x * bh) := by
    intro x
    rcases Int.le_total 0 x with hx | hx
    · have e1 := Int.mul_le_mul_of_nonneg_left h3 hx
      have e2 := Int.mul_le_mul_of_nonneg_left h4 hx
      exact ⟨Int.le_trans (imin_l _ _) e1, Int.le_trans e2 (imax_r _ _)⟩
    · have e1 := Int.mul_le_mul_of_nonpos_left hx h3
      have e2 := Int.mul_le_mul_of_nonpos_left hx h4
      exact ⟨Int.le_trans (imin_r _ _) e2, Int.le_trans e1 (imax_l _ _)⟩
  have k1 := key al
  have k2 := key ah
  rcases Int.le_total 0 b with hb | hb
  · have e1 := Int.mul_le_mul_of_nonneg_right h1 hb
    have e2 := Int.mul_le_mul_of_nonneg_right h2 hb
    exact ⟨Int.le_trans (imin_l _ _) (Int.le_trans k1.1 e1), Int.le_trans e2 (Int.le_trans k2.2 (imax_r _ _))⟩
  · have e1 := Int.mul_le_mul_of_nonpos_right h1 hb
    have e2 := Int.mul_le_mul_of_nonpos_right h2 hb
    exact ⟨Int.le_trans (imin_r _ _) (Int.le_trans k2.1 e2), Int.le_trans e1 (Int.le_trans k1.2 (imax_l _ _))⟩

def radd (k : IntKind) (a b : R) : R := fit k (mkAdd a.e b.e) (a.lo + b.lo) (a.hi + b.hi)
theorem radd_ok {ρ : Env} (k : IntKind) {a b : R} (ha : a.ok ρ) (hb : b.ok ρ) : (radd k a b).ok ρ ∧ (radd k a b).e.i ρ = k.wrap (a.e.i ρ + b.e.i ρ) := by
  obtain ⟨h1, h2⟩ := ha; obtain ⟨h3, h4⟩ := hb
  have := fit_ok ρ k (mkAdd a.e b.e) (a.lo + b.lo) (a.hi + b.hi) (by rw [mkAdd_i]; omega) (by rw [mkAdd_i]; omega)
  rwa [mkAdd_i] at this
def rsub (k : IntKind) (a b : R) : R := fit k (mkSub a.e b.e) (a.lo - b.hi) (a.hi - b.lo)
theorem rsub_ok {ρ : Env} (k : IntKind) {a b : R} (ha : a.ok ρ) (hb : b.ok ρ) : (rsub k a b).ok ρ ∧ (rsub k a b).e.i ρ = k.wrap (a.e.i ρ - b.e.i ρ) := by
  obtain ⟨h1, h2⟩ := ha; obtain ⟨h3, h4⟩ := hb
  have := fit_ok ρ k (mkSub a.e b.e) (a.lo - b.hi) (a.hi - b.lo) (by rw [mkSub_i]; omega) (by rw [mkSub_i]; omega)
  rwa [mkSub_i] at this
def rmul (k : IntKind) (a b : R) : R :=
  fit k (mkMul a.e b.e) (imin (imin (a.lo * b.lo) (a.lo * b.hi)) (imin (a.hi * b.lo) (a.hi * b.hi))) (imax (imax (a.lo * b.lo) (a.lo * b.hi)) (imax (a.hi * b.lo) (a.hi * b.hi)))
theorem rmul_ok {ρ : Env} (k : IntKind) {a b : R} (ha : a.ok ρ) (hb : b.ok ρ) : (rmul k a b).ok ρ ∧ (rmul k a b).e.i ρ = k.wrap (a.e.i ρ * b.e.i ρ) := by
  have hm := mul_bd ha.1 ha.2 hb.1 hb.2
  have := fit_ok ρ k (mkMul a.e b.e) _ _ (by rw [mkMul_i]; exact hm.1) (by rw [mkMul_i]; exact hm.2)
  rwa [mkMul_i] at this

theorem tdiv_bd (x y : Int) (hy : 1 ≤ y) : (0 ≤ x → 0 ≤ x.tdiv y ∧ x.tdiv y ≤ x) ∧ (x ≤ 0 → x ≤ x.tdiv y ∧ x.tdiv y ≤ 0) := by
  have key : ∀ z : Int, 0 ≤ z → 0 ≤ z.tdiv y ∧ z.tdiv y ≤ z := by
    intro z hz
    rw [Int.tdiv_eq_ediv_of_nonneg hz]
    exact IntWalk.tdiv_le z y hz hy
  refine ⟨key x, fun h => ?_⟩
  have := key (-x) (by omega)
  rw [Int.neg_tdiv] at this
  omega
def rquo (k : IntKind) (a b : R) : R :=
  if 0 ≤ a.lo then
    (if b.lo = b.hi then fit k (.bin .div a.e b.e) (a.lo / b.lo) (a.hi / b.lo) else fit k (.bin .div a.e b.e) 0 a.hi)
  else fit k (.bin .quo a.e b.e) (imin a.lo 0) (imax a.hi 0)
theorem rquo_ok {ρ : Env} (k : IntKind) {a b : R} (ha : a.ok ρ) (hb : b.ok ρ) (h1 : 1 ≤ b.lo) : (rquo k a b).ok ρ ∧ (rquo k a b).e.i ρ = k.wrap ((a.e.i ρ).tdiv (b.e.i ρ)) := by
  obtain ⟨h2, h3⟩ := ha; obtain ⟨h4, h5⟩ := hb
  have hy : 1 ≤ b.e.i ρ := by omega
  unfold rquo
  split
  · rename_i h0
    rw [Int.tdiv_eq_ediv_of_nonneg (by omega : 0 ≤ a.e.i ρ)]
    split
    · rename_i hl
      have hb' : b.e.i ρ = b.lo := by omega
      refine fit_ok ρ k _ _ _ ?_ ?_
      · show _ ≤ a.e.i ρ / b.e.i ρ; rw [hb']; exact Int.ediv_le_ediv (by omega) h2
      · show a.e.i ρ / b.e.i ρ ≤ _; rw [hb']; exact Int.ediv_le_ediv (by omega) h3
    · have := (tdiv_bd (a.e.i ρ) (b.e.i ρ) hy).1 (by omega)
      rw [Int.tdiv_eq_ediv_of_nonneg (by omega : 0 ≤ a.e.i ρ)] at this
      exact fit_ok ρ k _ _ _ this.1 (Int.le_trans this.2 h3)
  · have t := tdiv_bd (a.e.i ρ) (b.e.i ρ) hy
    refine fit_ok ρ k _ _ _ ?_ ?_
    · show _ ≤ (a.e.i ρ).tdiv (b.e.i ρ)
      rcases Int.le_total 0 (a.e.i ρ) with h | h
      · exact Int.le_trans (imin_r _ _) (t.1 h).1
      · exact Int.le_trans (Int.le_trans (imin_l _ _) h2) (t.2 h).1
    · show (a.e.i ρ).tdiv (b.e.i ρ) ≤ _
      rcases Int.le_total 0 (a.e.i ρ) with h | h
      · exact Int.le_trans (Int.le_trans (t.1 h).2 h3) (imax_l _ _)
      · exact Int.le_trans (t.2 h).2 (imax_r _ _)
theorem emod_le (x y : Int) (h : 0 ≤ x) (hy : 0 < y) : x % y ≤ x := by
  have := Int.emod_add_mul_ediv x y
  have h2 := Int.mul_nonneg (Int.le_of_lt hy) (Int.ediv_nonneg h (Int.le_of_lt hy))
  omega
def rrem (a b : R) : R :=
  if 0 ≤ a.lo then (if a.hi < b.lo then a else ⟨.bin .mod a.e b.e, 0, imin a.hi (b.hi - 1)⟩) else ⟨.bin .rem a.e b.e, 1 - b.hi, b.hi - 1⟩
theorem rrem_ok {ρ : Env} {a b : R} (ha : a.ok ρ) (hb : b.ok ρ) (h1 : 1 ≤ b.lo) : (rrem a b).ok ρ ∧ (rrem a b).e.i ρ = (a.e.i ρ).tmod (b.e.i ρ) := by
  obtain ⟨h2, h3⟩ := ha; obtain ⟨h4, h5⟩ := hb
  unfold rrem
  split
  · rename_i h0
    have he : (a.e.i ρ).tmod (b.e.i ρ) = a.e.i ρ % b.e.i ρ := Int.tmod_eq_emod_of_nonneg (by omega)
    split
    · exact ⟨⟨h2, h3⟩, by rw [he]; exact (Int.emod_eq_of_lt (by omega) (by omega)).symm⟩
    · refine ⟨⟨Int.emod_nonneg _ (by omega), ?_⟩, he.symm⟩
      show a.e.i ρ % b.e.i ρ ≤ _
      have e1 := Int.emod_lt_of_pos (a.e.i ρ) (by omega : 0 < b.e.i ρ)
      have e2 := emod_le (a.e.i ρ) (b.e.i ρ) (by omega) (by omega)
      show _ ≤ imin _ _
      unfold imin; split <;> omega
  · refine ⟨?_, rfl⟩
    show _ ≤ (a.e.i ρ).tmod (b.e.i ρ) ∧ (a.e.i ρ).tmod (b.e.i ρ) ≤ _
    have e1 := Int.tmod_lt_of_pos (a.e.i ρ) (by omega : 0 < b.e.i ρ)
    have e2 := Int.tmod_lt_of_pos (-(a.e.i ρ)) (by omega : 0 < b.e.i ρ)
    rw [Int.neg_tmod] at e2
    show 1 - b.hi ≤ _ ∧ _ ≤ b.hi - 1
    omega
def rmin (a b : R) : R := if a.hi ≤ b.lo then a else if b.hi ≤ a.lo then b else ⟨.bin .min a.e b.e, imin a.lo b.lo, imin a.hi b.hi⟩
theorem rmin_ok {ρ : Env} {a b : R} (ha : a.ok ρ) (hb : b.ok ρ) : (rmin a b).ok ρ ∧ (rmin a b).e.i ρ = min (a.e.i ρ) (b.e.i ρ) := by
  obtain ⟨h2, h3⟩ := ha; obtain ⟨h4, h5⟩ := hb
  unfold rmin
  split
  · exact ⟨⟨h2, h3⟩, by omega⟩
  · split
    · exact ⟨⟨h4, h5⟩, by omega⟩
    · refine ⟨?_, rfl⟩
      show imin _ _ ≤ min _ _ ∧ min _ _ ≤ imin _ _
      unfold imin; (repeat' split) <;> omega
def rmax (a b : R) : R := if b.hi ≤ a.lo then a else if a.hi ≤ b.lo then b else ⟨.bin .max a.e b.e, imax a.lo b.lo, imax a.hi b.hi⟩
theorem rmax_ok {ρ : Env} {a b : R} (ha : a.ok ρ) (hb : b.ok ρ) : (rmax a b).ok ρ ∧ (rmax a b).e.i ρ = max (a.e.i ρ) (b.e.i ρ) := by
  obtain ⟨h2, h3⟩ := ha; obtain ⟨h4, h5⟩ := hb
  unfold rmax
  split
  · exact ⟨⟨h2, h3⟩, by omega⟩
  · split
    · exact ⟨⟨h4, h5⟩, by omega⟩
    · refine ⟨?_, rfl⟩
      show imax _ _ ≤ max _ _ ∧ max _ _ ≤ imax _ _
      unfold imax; (repeat' split) <;> omega
def rlt (a b : R) : E := if a.hi < b.lo then .bc true else if b.hi ≤ a.lo then .bc false else mkLt a.e b.e
theorem rlt_b {ρ : Env} {a b : R} (ha : a.ok ρ) (hb : b.ok ρ) : (rlt a b).b ρ = decide (a.e.i ρ < b.e.i ρ) := by
  obtain ⟨h2, h3⟩ := ha; obtain ⟨h4, h5⟩ := hb
  unfold rlt
  split
  · simp [E.b]; omega
  · split
    · simp [E.b]; omega
    · exact mkLt_b ρ _ _
def rle (a b : R) : E := if a.hi ≤ b.lo then .bc true else if b.hi < a.lo then .bc false else mkLe a.e b.e
theorem rle_b {ρ : Env} {a b : R} (ha : a.ok ρ) (hb : b.ok ρ) : (rle a b).b ρ = decide (a.e.i ρ ≤ b.e.i ρ) := by
  obtain ⟨h2, h3⟩ := ha; obtain ⟨h4, h5⟩ := hb
  unfold rle
  split
  · simp [E.b]; omega
  · split
    · simp [E.b]; omega
    · exact mkLe_b ρ _ _
def req (a b : R) : E := if a.hi < b.lo ∨ b.hi < a.lo then .bc false else mkEq a.e b.e
theorem req_b {ρ : Env} {a b : R} (ha : a.ok ρ) (hb : b.ok ρ) : (req a b).b ρ = decide (a.e.i ρ = b.e.i ρ) := by
  obtain ⟨h2, h3⟩ := ha; obtain ⟨h4, h5⟩ := hb
  unfold req
  split
  · simp [E.b]; omega
  · exact mkEq_b ρ _ _
def rch (d a b : E) : E :=
  if a.same b then a else
  match d with
  | .bin .eq x (.c z) => if (x.same b && (E.c z).same a) then b else .ite d a b
  | d => .ite d a b
theorem rch_i (ρ : Env) (d a b : E) : (rch d a b).i ρ = if d.b ρ = true then a.i ρ else b.i ρ := by
  unfold rch
  split
  · rename_i h; rw [E.same_eq h]; simp
  · split
    · split
      · rename_i x z h
        simp at h
        have e1 := E.same_eq h.1
        have e2 := E.same_eq h.2
        rw [← e1, ← e2]
        by_cases hx : x.i ρ = z <;> simp [E.b, E.i, hx]
      · rfl
    · rfl
def rite (d : E) (a b : R) : R := ⟨rch d a.e b.e, imin a.lo b.lo, imax a.hi b.hi⟩
theorem rite_i (ρ : Env) (d : E) (a b : R) : (rite d a b).e.i ρ = if d.b ρ = true then a.e.i ρ else b.e.i ρ := rch_i ρ d a.e b.e
theorem rite_t {ρ : Env} {d : E} {a b : R} (hd : d.b ρ = true) (ha : a.ok ρ) : (rite d a b).ok ρ := by
  obtain ⟨h2, h3⟩ := ha
  have hi := rite_i ρ d a b
  rw [if_pos hd] at hi
  unfold R.ok
  rw [hi]
  exact ⟨Int.le_trans (imin_l _ _) h2, Int.le_trans h3 (imax_l _ _)⟩
theorem rite_f {ρ : Env} {d : E} {a b : R} (hd : d.b ρ = false) (hb : b.ok ρ) : (rite d a b).ok ρ := by
  obtain ⟨h2, h3⟩ := hb
  have hi := rite_i ρ d a b
  rw [if_neg (by rw [hd]; simp)] at hi
  unfold R.ok
  rw [hi]
  exact ⟨Int.le_trans (imin_r _ _) h2, Int.le_trans h3 (imax_r _ _)⟩
end Go.Proofs.Ytdfpenjhpemokaa.Sx
/-
  A verified symbolic executor, part 3: symbolic values, blocks, states; what they stand for.
-/
namespace Go.Proofs.Ytdfpenjhpemokaa.Sx

structure Bd where
  β : Nat → Nat
  o : Nat → Nat
  κ : Nat → Nat
inductive CK where
  | int (k : IntKind) (lo hi : Int) | bool | slc
  deriving DecidableEq, Repr, Inhabited
inductive SV where
  | int (k : IntKind) (r : R)
  | bool (e : E)
  | nilp | ptr (n off : Nat)
  | nils | sl (n off len : Nat) (cap : Option Nat) | slv (n off : Nat) (len : R) | emp (k : Nat) | osl (k : Nat) (sh : List CK) (len : R) | optr (k : Nat) (sh : List CK) (i : R) (off : Nat) | esl (id : Nat) (i : E)
  | nili | ifc (t : TypeId) (v : SV) | err (r : R)
  | nilf | fn (f : FuncId) (caps : List SV)
  | agg (l : List SV) | tup (l : List SV)
  | con (v : Value)
  deriving Inhabited

def CK.fid (k j : Nat) : Nat := 1000 + 100 * k + j
def CK.sv (c : CK) (k j : Nat) (i : E) : SV := match c with
  | .int kd lo hi => .int kd ⟨.ap (CK.fid k j) (.cons i .nil), lo, hi⟩
  | .bool => .bool (.ap (CK.fid k j) (.cons i .nil))
  | .slc => .esl (CK.fid k j) i
def Env.slc (ρ : Env) (id : Nat) (i : Int) : Value := .slice (ρ.es id i).1 (ρ.es id i).2.1 (ρ.es id i).2.2
def CK.val (ρ : Env) (c : CK) (k j : Nat) (i : Int) : Value := match c with
  | .int kd _ _ => .int kd (ρ.fn (CK.fid k j) [i])
  | .bool => .bool (ρ.fb (CK.fid k j) [i])
  | .slc => ρ.slc (CK.fid k j) i
def CK.fits (ρ : Env) (c : CK) (k j : Nat) (i : Int) : Prop := match c with
  | .int _ lo hi => lo ≤ ρ.fn (CK.fid k j) [i] ∧ ρ.fn (CK.fid k j) [i] ≤ hi
  | .bool => True
  | .slc => ρ.fn (CK.fid k j) [i] = (ρ.es (CK.fid k j) i).2.1 ∧ (ρ.es (CK.fid k j) i).2.1 ≤ 9223372036854775807
def CK.elem (ρ : Env) (sh : List CK) (k : Nat) (i : Nat) : Prop := ∀ j c, sh[j]? = some c → (ρ.mv k)[i * sh.length + j]? = some (c.val ρ k j i) ∧ c.fits ρ k j i
mutual
def SV.den (ρ : Env) (b : Bd) : SV → Value
  | .int k r => .int k (r.e.i ρ)
  | .bool e => .bool (e.b ρ)
  | .nilp => .pointer none
  | .ptr n off => .pointer (some ⟨b.β n, b.o n + off, none⟩)
  | .nils => .slice none 0 0
  | .sl n off len cap => .slice (some ⟨b.β n, b.o n + off, none⟩) len (cap.getD (b.κ n))
  | .slv n off len => .slice (some ⟨b.β n, b.o n + off, none⟩) (len.e.i ρ).toNat (b.κ n)
  | .emp k => .slice (ρ.ov k).1 0 (ρ.ov k).2
  | .osl k _ len => .slice (ρ.ov k).1 (len.e.i ρ).toNat (ρ.ov k).2
  | .optr k sh i off => .pointer ((ρ.ov k).1.map fun a => ⟨a.block, a.off + ((i.e.i ρ).toNat * sh.length + off), none⟩)
  | .esl id i => ρ.slc id (i.i ρ)
  | .nili => .nilIface
  | .ifc t v => .iface t (v.den ρ b)
  | .err r => if r.e.i ρ = 0 then .nilIface else .iface ρ.et (.int .i64 (r.e.i ρ))
  | .nilf => .nilFunc
  | .fn f l => .func (.func f) #[] (SV.denL ρ b l).toArray
  | .agg l => .agg (SV.denL ρ b l).toArray
  | .tup l => .tuple (SV.denL ρ b l).toArray
  | .con v => v
def SV.denL (ρ : Env) (b : Bd) : List SV → List Value
  | [] => []
  | a :: l => a.den ρ b :: SV.denL ρ b l
end
mutual
def SV.ok (ρ : Env) (N : Nat → Prop) : SV → Prop
  | .int _ r => r.ok ρ
  | .ptr n _ => N n
  | .sl n _ _ _ => N n
  | .slv n _ len => N n ∧ len.ok ρ ∧ 0 ≤ len.lo
  | .osl k sh len => len.ok ρ ∧ 0 ≤ len.lo ∧ (∀ i : Nat, (i : Int) < len.e.i ρ → CK.elem ρ sh k i) ∧ len.e.i ρ = ρ.ol k
  | .optr k sh i _ => i.ok ρ ∧ 0 ≤ i.e.i ρ ∧ CK.elem ρ sh k (i.e.i ρ).toNat ∧ ∃ p o, (ρ.ov k).1 = some ⟨p, o, none⟩
  | .esl id i => ρ.fn id [i.i ρ] = (ρ.es id (i.i ρ)).2.1 ∧ (ρ.es id (i.i ρ)).2.1 ≤ 9223372036854775807
  | .ifc _ v => v.ok ρ N
  | .err r => r.ok ρ
  | .fn _ l => SV.okL ρ N l
  | .agg l => SV.okL ρ N l
  | .tup l => SV.okL ρ N l
  | _ => True
def SV.okL (ρ : Env) (N : Nat → Prop) : List SV → Prop
  | [] => True
  | a :: l => a.ok ρ N ∧ SV.okL ρ N l
end
theorem CK.sv_den (ρ : Env) (b : Bd) (c : CK) (k j : Nat) (i : E) : (c.sv k j i).den ρ b = c.val ρ k j (i.i ρ) := by
  cases c <;> simp [CK.sv, CK.val, SV.den, E.i, E.b, E.l]
theorem CK.sv_ok {ρ : Env} {N : Nat → Prop} {c : CK} {k j : Nat} {i : E} (h : c.fits ρ k j (i.i ρ)) : (c.sv k j i).ok ρ N := by
  cases c
  · simpa [CK.sv, SV.ok, R.ok, E.i, E.l, CK.fits] using h
  · trivial
  · exact h
def Agree (b b' : Bd) (N : Nat → Prop) : Prop := ∀ n, N n → b'.β n = b.β n ∧ b'.o n = b.o n ∧ b'.κ n = b.κ n

theorem denL_map (ρ : Env) (b : Bd) (l : List SV) : SV.denL ρ b l = l.map (SV.den ρ b) := by
  induction l with
  | nil => simp [SV.denL]
  | cons a l ih => rw [SV.denL, ih]; rfl
theorem denL_length (ρ : Env) (b : Bd) (l : List SV) : (SV.denL ρ b l).length = l.length := by rw [denL_map]; simp
theorem denL_get (ρ : Env) (b : Bd) (l : List SV) (i : Nat) : (SV.denL ρ b l)[i]? = (l[i]?).map (SV.den ρ b) := by rw [denL_map]; simp
theorem okL_all (ρ : Env) (N : Nat → Prop) (l : List SV) : SV.okL ρ N l ↔ ∀ v ∈ l, v.ok ρ N := by
  induction l with
  | nil => simp [SV.okL]
  | cons a l ih => rw [SV.okL, ih]; simp
theorem okL_get {ρ : Env} {N : Nat → Prop} {l : List SV} (h : SV.okL ρ N l) {i : Nat} {v : SV} (hi : l[i]? = some v) : v.ok ρ N :=
  (okL_all ρ N l).1 h v (List.mem_of_getElem? hi)

mutual
theorem SV.den_agree {ρ : Env} {b b' : Bd} {N : Nat → Prop} (hb : Agree b b' N) : (v : SV) → v.ok ρ N → v.den ρ b' = v.den ρ b
  | .int k r, _ => rfl
  | .bool e, _ => rfl
  | .nilp, _ => rfl
  | .ptr n off, h => by
    have := hb n h
    simp only [SV.den, this]
  | .nils, _ => rfl
  | .sl n off len cap, h => by
    have := hb n h
    simp only [SV.den, this]
  | .slv n off len, h => by
    have := hb n h.1
    simp only [SV.den, this]
  | .emp k, _ => rfl
  | .osl _ _ _, _ => rfl
  | .optr _ _ _ _, _ => rfl
  | .esl _ _, _ => rfl
  | .nili, _ => rfl
  | .ifc t v, h => by simp only [SV.den]; rw [SV.den_agree hb v h]
  | .err r, _ => rfl
  | .nilf, _ => rfl
  | .fn f l, h => by simp only [SV.den]; rw [SV.denL_agree hb l h]
  | .agg l, h => by simp only [SV.den]; rw [SV.denL_agree hb l h]
  | .tup l, h => by simp only [SV.den]; rw [SV.denL_agree hb l h]
  | .con v, _ => rfl
theorem SV.denL_agree {ρ : Env} {b b' : Bd} {N : Nat → Prop} (hb : Agree b b' N) : (l : List SV) → SV.okL ρ N l → SV.denL ρ b' l = SV.denL ρ b l
  | [], _ => rfl
  | a :: l, h => by simp only [SV.denL]; rw [SV.den_agree hb a h.1, SV.denL_agree hb l h.2]
end
mutual
theorem SV.ok_mono {ρ : Env} {N M : Nat → Prop} (hN : ∀ n, N n → M n) : (v : SV) → v.ok ρ N → v.ok ρ M
  | .int k r, h => h
  | .bool e, _ => trivial
  | .nilp, _ => trivial
  | .ptr n off, h => hN n h
  | .nils, _ => trivial
  | .sl n off len cap, h => hN n h
  | .slv n off len, h => ⟨hN n h.1, h.2⟩
  | .emp k, h => trivial
  | .osl _ _ _, h => h
  | .optr _ _ _ _, h => h
  | .esl _ _, h => h
  | .nili, _ => trivial
  | .ifc t v, h => SV.ok_mono hN v h
  | .err r, h => h
  | .nilf, _ => trivial
  | .fn f l, h => SV.okL_mono hN l h
  | .agg l, h => SV.okL_mono hN l h
  | .tup l, h => SV.okL_mono hN l h
  | .con v, _ => trivial
theorem SV.okL_mono {ρ : Env} {N M : Nat → Prop} (hN : ∀ n, N n → M n) : (l : List SV) → SV.okL ρ N l → SV.okL ρ M l
  | [], _ => trivial
  | a :: l, h => ⟨SV.ok_mono hN a h.1, SV.okL_mono hN l h.2⟩
end

def SV.ofValue : Value → SV
  | .int k n => .int k ⟨.c n, n, n⟩
  | .bool b => .bool (.bc b)
  | .pointer none => .nilp
  | .slice none 0 0 => .nils
  | .nilIface => .nili
  | .nilFunc => .nilf
  | v => .con v
theorem SV.ofValue_den (ρ : Env) (b : Bd) (v : Value) : (SV.ofValue v).den ρ b = v := by
  unfold SV.ofValue
  split <;> rfl
theorem SV.ofValue_ok (ρ : Env) (N : Nat → Prop) (v : Value) : (SV.ofValue v).ok ρ N := by
  unfold SV.ofValue
  split <;> first | exact trivial | exact ⟨Int.le_refl _, Int.le_refl _⟩
def SV.isOne : SV → Bool
  | .agg _ | .tup _ | .con _ => false
  | _ => true
theorem SV.isOne_den {v : SV} (h : v.isOne = true) (ρ : Env) (b : Bd) : (v.den ρ b).oneCell' = true ∧ (v.den ρ b).cells = #[v.den ρ b] := by
  cases v <;> simp [SV.isOne] at h <;> simp only [SV.den] <;> (try split) <;> exact ⟨rfl, rfl⟩
def SV.cells : SV → List SV
  | .agg l => l
  | v => [v]
theorem SV.cells_den {v : SV} (ρ : Env) (b : Bd) (h : v.isOne = true ∨ ∃ l, v = .agg l) : (v.den ρ b).cells = (SV.denL ρ b v.cells).toArray := by
  rcases h with h | ⟨l, rfl⟩
  · rw [(SV.isOne_den h ρ b).2]
    cases v <;> simp [SV.isOne] at h <;> rfl
  · rfl
theorem SV.cells_ok {v : SV} {ρ : Env} {N : Nat → Prop} (h : v.ok ρ N) : SV.okL ρ N v.cells := by
  cases v <;> first | exact h | exact ⟨h, trivial⟩

def find {α : Type} : List (Nat × α) → Nat → Option α
  | [], _ => none
  | (m, x) :: l, n => if m = n then some x else find l n
def upd {α : Type} : List (Nat × α) → Nat → α → List (Nat × α)
  | [], n, y => [(n, y)]
  | (m, x) :: l, n, y => if m = n then (m, y) :: l else (m, x) :: upd l n y
def push {α : Type} (l : List (Nat × α)) (n : Nat) (y : α) : List (Nat × α) := (n, y) :: l
theorem find_push {α : Type} (l : List (Nat × α)) (n : Nat) (y : α) (m : Nat) : find (push l n y) m = if n = m then some y else find l m := rfl
def del {α : Type} : List (Nat × α) → Nat → List (Nat × α)
  | [], _ => []
  | (m, x) :: l, n => if m = n then del l n else (m, x) :: del l n
theorem find_upd {α : Type} (l : List (Nat × α)) (n : Nat) (y : α) (m : Nat) : find (upd l n y) m = if n = m then some y else find l m := by
  induction l with
  | nil => simp [upd, find]
  | cons a l ih =>
    obtain ⟨k, x⟩ := a
    unfold upd
    by_cases h : k = n
    · subst h; simp [find]; split <;> rfl
    · simp only [h, if_false, find, ih]
      by_cases h2 : k = m
      · subst h2
        have : ¬ n = k := fun e => h e.symm
        simp [this]
      · simp [h2]
theorem find_del {α : Type} (l : List (Nat × α)) (n : Nat) (m : Nat) : find (del l n) m = if n = m then none else find l m := by
  induction l with
  | nil => simp [del, find]
  | cons a l ih =>
    obtain ⟨k, x⟩ := a
    unfold del
    by_cases h : k = n
    · subst h; simp only [if_true, ih, find]; split <;> simp_all
    · simp only [h, if_false, find, ih]
      by_cases h2 : k = m
      · subst h2
        have : ¬ n = k := fun e => h e.symm
        simp [this]
      · simp [h2]

inductive BK where
  | full | grow (size : Nat) | far
  deriving DecidableEq, Repr, Inhabited
structure Blk where
  cells : List SV
  elem : TypeId
  kind : BK
  deriving Inhabited
def Blk.own (B : Blk) : Bool := match B.kind with | .far => false | _ => true
def Blk.ok (ρ : Env) (b : Bd) (base : Nat → Prop) (w : World) (n : Nat) (B : Blk) : Prop :=
  match B.kind with
  | .full => b.o n = 0 ∧ ¬ base (b.β n) ∧ w.heap[b.β n]? = some (.cells (SV.denL ρ b B.cells).toArray B.elem (0, 0))
  | .grow size => b.o n = 0 ∧ ¬ base (b.β n) ∧ ∃ arr : Array Value, w.heap[b.β n]? = some (.cells arr B.elem (0, 0)) ∧ arr.size = b.κ n * size ∧ B.cells.length ≤ arr.size ∧ ∀ (i : Nat) (v : SV), B.cells[i]? = some v → arr[i]? = some (v.den ρ b)
  | .far => base (b.β n) ∧ ∀ (i : Nat) (v : SV), B.cells[i]? = some v → w.cell? ⟨b.β n, b.o n + i, none⟩ = some (v.den ρ b)
theorem Blk.ok.cell {ρ : Env} {b : Bd} {base : Nat → Prop} {w : World} {n : Nat} {B : Blk} (h : B.ok ρ b base w n) {i : Nat} {v : SV} (hi : B.cells[i]? = some v) : w.cell? ⟨b.β n, b.o n + i, none⟩ = some (v.den ρ b) := by
  unfold Blk.ok at h
  split at h
  · obtain ⟨h0, _, h2⟩ := h
    simp [World.cell?, h2, h0, denL_get, hi]
  · obtain ⟨h0, _, arr, h2, _, _, h3⟩ := h
    simp [World.cell?, h2, h0, h3 i v hi]
  · exact h.2 i v hi
theorem Blk.ok.frozen {ρ : Env} {b : Bd} {base : Nat → Prop} {w : World} {n : Nat} {B : Blk} (h : B.ok ρ b base w n) (ho : B.own = true) (i : Nat) : w.frozen? ⟨b.β n, i, none⟩ = false := by
  unfold Blk.ok at h
  unfold Blk.own at ho
  split at h
  · simp [World.frozen?, h.2.2]
  · obtain ⟨_, _, arr, h2, _⟩ := h
    simp [World.frozen?, h2]
  · simp_all
theorem Blk.ok.base {ρ : Env} {b : Bd} {base : Nat → Prop} {w : World} {n : Nat} {B : Blk} (h : B.ok ρ b base w n) (ho : B.own = true) : ¬ base (b.β n) ∧ b.β n < w.heap.size ∧ b.o n = 0 := by
  unfold Blk.ok at h
  unfold Blk.own at ho
  split at h
  · exact ⟨h.2.1, (Array.getElem?_eq_some_iff.1 h.2.2).1, h.1⟩
  · obtain ⟨h0, h1, arr, h2, _⟩ := h
    exact ⟨h1, (Array.getElem?_eq_some_iff.1 h2).1, h0⟩
  · simp_all
theorem Blk.ok.keep {ρ : Env} {b b' : Bd} {base : Nat → Prop} {w w' : World} {n : Nat} {B : Blk} {N : Nat → Prop} (h : B.ok ρ b base w n) (hn : N n) (hok : SV.okL ρ N B.cells) (hb : Agree b b' N) (hw : w'.heap[b.β n]? = w.heap[b.β n]?) : B.ok ρ b' base w' n := by
  obtain ⟨e1, e2, e3⟩ := hb n hn
  unfold Blk.ok at h ⊢
  split at h
  · rw [e1, e2, hw, SV.denL_agree hb _ hok]; exact h
  · rw [e1, e2, hw, e3]
    obtain ⟨h0, h1, arr, h2, h3, h4, h5⟩ := h
    exact ⟨h0, h1, arr, h2, h3, h4, fun i v hi => by rw [SV.den_agree hb v (okL_get hok hi)]; exact h5 i v hi⟩
  · rw [e1, e2]
    refine ⟨h.1, fun i v hi => ?_⟩
    rw [SV.den_agree hb v (okL_get hok hi), ← h.2 i v hi]
    exact World.cell?_of_block (w := w) hw
end Go.Proofs.Ytdfpenjhpemokaa.Sx
/-
  A verified symbolic executor, part 4: states; operations that only compute or read.
-/
namespace Go.Proofs.Ytdfpenjhpemokaa.Sx
open Go.RowKit (Below)

def allB (ρ : Env) (l : List E) : Prop := ∀ e ∈ l, e.b ρ = true
def sub (g A : List E) : Bool := g.all fun e => A.any fun x => e.same x
theorem sub_ok {ρ : Env} {g A : List E} (h : sub g A = true) (hA : allB ρ A) : allB ρ g := by
  intro e he
  unfold sub at h
  rw [List.all_eq_true] at h
  have := h e he
  rw [List.any_eq_true] at this
  obtain ⟨x, hx, hs⟩ := this
  rw [E.same_eq hs]; exact hA x hx

structure Ent where
  g : List E
  sv : SV
  deriving Inhabited
structure HEnt where
  g : List E
  blk : Blk
  deriving Inhabited
structure St where
  tmps : List (Nat × Ent)
  heap : List (Nat × HEnt)
  next : Nat
  nt : Nat
  deriving Inhabited

structure Kept (F : Nat → Prop) (w w' : World) : Prop where
  os : w'.os = w.os
  tape : w'.tape = w.tape
  output : w'.output = w.output
  size : w.heap.size ≤ w'.heap.size
  block : ∀ k, F k → w'.heap[k]? = w.heap[k]?
theorem Kept.refl (F : Nat → Prop) (w : World) : Kept F w w := ⟨rfl, rfl, rfl, Nat.le_refl _, fun _ _ => rfl⟩
theorem Kept.trans {F : Nat → Prop} {a b c : World} (h : Kept F a b) (k : Kept F b c) : Kept F a c :=
  ⟨k.os.trans h.os, k.tape.trans h.tape, k.output.trans h.output, Nat.le_trans h.size k.size, fun i hi => (k.block i hi).trans (h.block i hi)⟩
theorem Kept.mono {F G : Nat → Prop} {w w' : World} (h : Kept F w w') (hG : ∀ k, G k → F k) : Kept G w w' := ⟨h.os, h.tape, h.output, h.size, fun k hk => h.block k (hG k hk)⟩
theorem Kept.drew {F : Nat → Prop} {a w : World} (h : Kept F a w) : Kept F a w.drew := ⟨h.os, h.tape, h.output, h.size, h.block⟩
theorem Kept.alloc {F : Nat → Prop} {a w : World} (h : Kept F a w) (hF : ∀ k, F k → k < w.heap.size) (o : Obj) : Kept F a (w.alloc o) :=
  h.trans ⟨rfl, rfl, rfl, by simp, fun k hk => Below.heap_alloc _ _ _ (hF k hk)⟩
theorem Kept.of {w w' : World} {n : Nat} (h : Below n w w') : Kept (· < n) w w' := ⟨h.os, h.tape, h.output, h.size, h.block⟩
theorem Kept.below {w w' : World} {n : Nat} (h : Kept (· < n) w w') : Below n w w' := ⟨h.os, h.tape, h.output, h.size, h.block⟩
def Mel (ρ : Env) (base : Nat → Prop) (w : World) : Prop := ∀ k i v, (ρ.mv k)[i]? = some v → ∃ p off, (ρ.ov k).1 = some ⟨p, off, none⟩ ∧ base p ∧ w.cell? ⟨p, off + i, none⟩ = some v
def Men (ρ : Env) (base : Nat → Prop) (w : World) : Prop := ∀ k i q v, (ρ.mn k i)[q]? = some v → ∃ p off, (ρ.es k i).1 = some ⟨p, off, none⟩ ∧ base p ∧ w.cell? ⟨p, off + q, none⟩ = some v
def Mem (ρ : Env) (base : Nat → Prop) (w : World) : Prop := Mel ρ base w ∧ Men ρ base w
theorem Mem.kept {ρ : Env} {base : Nat → Prop} {w w' : World} (h : Mem ρ base w) (hk : Kept base w w') : Mem ρ base w' := ⟨fun k i v hv => by
  obtain ⟨p, off, h1, h2, h3⟩ := h.1 k i v hv
  exact ⟨p, off, h1, h2, (World.cell?_of_block (w := w) (hk.block p h2)).trans h3⟩, fun k i q v hv => by
  obtain ⟨p, off, h1, h2, h3⟩ := h.2 k i q v hv
  exact ⟨p, off, h1, h2, (World.cell?_of_block (w := w) (hk.block p h2)).trans h3⟩⟩
theorem Mem.mono {ρ : Env} {base base' : Nat → Prop} {w : World} (h : Mem ρ base w) (hb : ∀ k, base k → base' k) : Mem ρ base' w := ⟨fun k i v hv => by
  obtain ⟨p, off, h1, h2, h3⟩ := h.1 k i v hv
  exact ⟨p, off, h1, hb p h2, h3⟩, fun k i q v hv => by
  obtain ⟨p, off, h1, h2, h3⟩ := h.2 k i q v hv
  exact ⟨p, off, h1, hb p h2, h3⟩⟩
theorem Mem.none {ρ : Env} {base : Nat → Prop} {w : World} (h : ρ.mv = fun _ => []) (h' : ρ.mn = fun _ _ => []) : Mem ρ base w := ⟨fun k i v hv => (by rw [h] at hv; cases hv), fun k i q v hv => (by rw [h'] at hv; cases hv)⟩
theorem Mem.of {ρ ρ' : Env} {base : Nat → Prop} {w : World} (h : Mem ρ base w) (h1 : ρ'.mv = ρ.mv) (h2 : ρ'.ov = ρ.ov) (h3 : ρ'.es = ρ.es) (h4 : ρ'.mn = ρ.mn) : Mem ρ' base w := ⟨fun k i v hv => (by rw [h1] at hv; rw [h2]; exact h.1 k i v hv), fun k i q v hv => (by rw [h4] at hv; rw [h3]; exact h.2 k i q v hv)⟩
structure HRel (ρ : Env) (b : Bd) (base : Nat → Prop) (w : World) (H : List (Nat × HEnt)) (N : Nat → Prop) : Prop where
  mem : ∀ n h, find H n = some h → allB ρ h.g → N n ∧ h.blk.ok ρ b base w n ∧ SV.okL ρ N h.blk.cells
  inj : ∀ n m h k, find H n = some h → find H m = some k → allB ρ h.g → allB ρ k.g → h.blk.own = true → k.blk.own = true → b.β n = b.β m → n = m
def Ent.at (ρ : Env) (b : Bd) (N : Nat → Prop) (tm : Array Value) (i : Nat) (e : Ent) : Prop :=
  (allB ρ e.g → tm[i]? = some (e.sv.den ρ b) ∧ e.sv.ok ρ N) ∧ (¬ allB ρ e.g → tm[i]? = some undef)
structure Rel (ρ : Env) (b : Bd) (bs : Nat → Prop) (w0 w : World) (S : St) (tm : Array Value) : Prop where
  heap : HRel ρ b bs w S.heap (· < S.next)
  tmps : ∀ i e, find S.tmps i = some e → e.at ρ b (· < S.next) tm i
  below : Kept bs w0 w
  base : (∀ k, bs k → k < w.heap.size)
  nt : tm.size = S.nt
  kept : Mem ρ bs w0

def ev (A : List E) (S : St) : Operand → Option SV
  | .tmp t => match find S.tmps t with
    | some e => if sub e.g A then some e.sv else none
    | none => none
  | .const v => some (SV.ofValue v)
  | .func f => some (.fn f [])
  | .global _ => none
theorem ev_ok {ρ : Env} {b : Bd} {base : Nat → Prop} {w0 w : World} {S : St} {a : Act} {A : List E} (h : Rel ρ b base w0 w S a.tmps) (hA : allB ρ A) {x : Operand} {v : SV} (hx : ev A S x = some v) : a.eval x = v.den ρ b ∧ v.ok ρ (· < S.next) := by
  cases x with
  | tmp t =>
    simp only [ev] at hx
    cases hf : find S.tmps t with
    | none => rw [hf] at hx; cases hx
    | some e =>
      rw [hf] at hx
      dsimp only at hx
      split at hx
      · rename_i hs
        cases hx
        obtain ⟨h1, h2⟩ := (h.tmps t e hf).1 (sub_ok hs hA)
        refine ⟨?_, h2⟩
        simp [Act.eval, Array.getD_eq_getD_getElem?, h1]
      · cases hx
  | const v => cases hx; exact ⟨(SV.ofValue_den ρ b v).symm, SV.ofValue_ok ρ _ v⟩
  | func f => cases hx; exact ⟨by simp [Act.eval, SV.den, SV.denL], trivial⟩
  | global g => cases hx
def blkOf (A : List E) (S : St) (n : Nat) : Option Blk :=
  match find S.heap n with
  | some h => if sub h.g A then some h.blk else none
  | none => none
theorem blkOf_ok {ρ : Env} {b : Bd} {base : Nat → Prop} {w0 w : World} {S : St} {tm : Array Value} {A : List E} (h : Rel ρ b base w0 w S tm) (hA : allB ρ A) {n : Nat} {B : Blk} (hx : blkOf A S n = some B) :
    n < S.next ∧ B.ok ρ b base w n ∧ SV.okL ρ (· < S.next) B.cells := by
  simp only [blkOf] at hx
  cases hf : find S.heap n with
  | none => rw [hf] at hx; cases hx
  | some e =>
    rw [hf] at hx
    dsimp only at hx
    split at hx
    · rename_i hs
      cases hx
      exact h.heap.mem n e hf (sub_ok hs hA)
    · cases hx

def isAggT (P : Program) (t : TypeId) : Option Bool :=
  match P.underlying t with
  | some (.struct _) => some true
  | some (.array _ _) => some true
  | some _ => some false
  | none => none
def sizeT (P : Program) (t : TypeId) : Option Nat := (P.info? t).map (·.size)
theorem run_isAgg {P : Program} {t : TypeId} {x : Bool} (h : isAggT P t = some x) (w : World) : (isAgg t).run P w = .ok x w := by
  unfold isAggT at h
  cases hu : P.underlying t with
  | none => rw [hu] at h; cases h
  | some d =>
    rw [hu] at h
    cases d <;> cases h <;> simp [isAgg, run_underlying hu]
theorem run_sizeOf {P : Program} {t : TypeId} {n : Nat} (h : sizeT P t = some n) (w : World) : (sizeOf t).run P w = .ok n w := by
  unfold sizeT at h
  cases hi : P.info? t with
  | none => rw [hi] at h; cases h
  | some i =>
    rw [hi] at h
    cases h
    simp [sizeOf, typeInfo, hi]

def sPart (P : Program) (t : TypeId) (cs : List SV) (off : Nat) : Option SV :=
  match isAggT P t, sizeT P t with
  | some true, some n => if off + n ≤ cs.length then some (.agg ((cs.drop off).take n)) else none
  | some false, _ => cs[off]?
  | _, _ => none
theorem okL_take {ρ : Env} {N : Nat → Prop} {l : List SV} (h : SV.okL ρ N l) (i n : Nat) : SV.okL ρ N ((l.drop i).take n) :=
  (okL_all _ _ _).2 fun v hv => (okL_all _ _ _).1 h v (List.mem_of_mem_drop (List.mem_of_mem_take hv))
theorem denL_take (ρ : Env) (b : Bd) (l : List SV) (i n : Nat) : SV.denL ρ b ((l.drop i).take n) = ((SV.denL ρ b l).drop i).take n := by
  rw [denL_map, denL_map, List.map_take, List.map_drop]
theorem sPart_ok {P : Program} {t : TypeId} {cs : List SV} {off : Nat} {v : SV} (h : sPart P t cs off = some v) {ρ : Env} {b : Bd} {N : Nat → Prop} (hk : SV.okL ρ N cs) (w : World) :
    (part t (SV.denL ρ b cs).toArray off).run P w = .ok (v.den ρ b) w ∧ v.ok ρ N := by
  unfold sPart at h
  split at h
  · rename_i n ha hs
    split at h
    · rename_i hl
      cases h
      refine ⟨?_, okL_take hk _ _⟩
      simp only [part, Sem.run_bind, run_isAgg ha, Result.andThen, if_true, run_sizeOf hs]
      simp only [SV.den, denL_take]
      simp [List.extract_eq_take_drop, Nat.add_sub_cancel_left]
    · cases h
  · rename_i ha
    refine ⟨?_, okL_get hk h⟩
    simp [part, Sem.run_bind, run_isAgg ha, denL_get, h]
  · cases h
theorem sLoad_ok {P : Program} {t : TypeId} {cs : List SV} {off : Nat} {v : SV} (h : sPart P t cs off = some v) {ρ : Env} {b : Bd} {N : Nat → Prop} (hk : SV.okL ρ N cs) {w : World} {a : Addr}
    (hc : ∀ i u, cs[off + i]? = some u → w.cell? (a.add i) = some (u.den ρ b)) :
    (loadVar t a).run P w = .ok (v.den ρ b) w ∧ v.ok ρ N := by
  unfold sPart at h
  split at h
  · rename_i n ha hs
    split at h
    · rename_i hl
      cases h
      refine ⟨?_, okL_take hk _ _⟩
      have hlen : (SV.denL ρ b ((cs.drop off).take n)).length = n := by rw [denL_length]; simp; omega
      have := run_loadCells_list (P := P) w a (SV.denL ρ b ((cs.drop off).take n)) (fun j u hj => by
        rw [denL_get] at hj
        cases hg : ((cs.drop off).take n)[j]? with
        | none => rw [hg] at hj; cases hj
        | some x =>
          rw [hg] at hj
          cases hj
          refine hc j x ?_
          rw [List.getElem?_take] at hg
          split at hg
          · simpa using hg
          · cases hg)
      rw [hlen] at this
      simp only [loadVar, Sem.run_bind, run_isAgg ha, Result.andThen, if_true, run_sizeOf hs, this]
      rfl
    · cases h
  · rename_i ha
    refine ⟨?_, okL_get hk h⟩
    have := hc 0 v (by simpa using h)
    simp only [Addr.add, if_true] at this
    simp [loadVar, run_isAgg ha, load, Sem.run, this]
  · cases h
end Go.Proofs.Ytdfpenjhpemokaa.Sx
/-
  A verified symbolic executor, part 5: the operations that only compute or read, one by one.
-/
namespace Go.Proofs.Ytdfpenjhpemokaa.Sx
open Go.RowKit (Below)

def isConstO : Operand → Bool
  | .const _ => true
  | _ => false
def sBin (P : Program) (op : BinOp) (t : TypeId) (nk : Bool) (x y : SV) : Option SV :=
  match x, y with
  | .int k a, .int k' b =>
    if op = .shr then if b.lo = b.hi ∧ 0 ≤ b.lo ∧ b.lo ≤ 62 ∧ k.bits = 64 then some (.int k ⟨.bin .div a.e (.c (2 ^ b.lo.toNat)), a.lo / 2 ^ b.lo.toNat, a.hi / 2 ^ b.lo.toNat⟩) else none
    else if k = k' then
      match op with
      | .add => some (.int k (radd k a b))
      | .sub => some (.int k (rsub k a b))
      | .mul => some (.int k (rmul k a b))
      | .quo => if 1 ≤ b.lo then some (.int k (rquo k a b)) else none
      | .rem => if 1 ≤ b.lo then some (.int k (rrem a b)) else none
      | .eql => some (.bool (req a b))
      | .neq => some (.bool (mkNot (req a b)))
      | .lss => some (.bool (rlt a b))
      | .leq => some (.bool (rle a b))
      | .gtr => some (.bool (rlt b a))
      | .geq => some (.bool (rle b a))
      | _ => none
    else none
  | .bool a, .bool b =>
    match P.underlying t, op with
    | some .bool, .eql => some (.bool (mkBeq a b))
    | some .bool, .neq => some (.bool (mkNot (mkBeq a b)))
    | _, _ => none
  | x, .nili =>
    match P.underlying t with
    | some (.interface _) =>
      if nk then
        match x with
        | .nili => match op with | .eql => some (.bool (.bc true)) | .neq => some (.bool (.bc false)) | _ => none
        | .ifc _ _ => match op with | .eql => some (.bool (.bc false)) | .neq => some (.bool (.bc true)) | _ => none
        | .err r => match op with | .eql => some (.bool (req r ⟨.c 0, 0, 0⟩)) | .neq => some (.bool (mkNot (req r ⟨.c 0, 0, 0⟩))) | _ => none
        | _ => none
      else none
    | _ => none
  | _, _ => none

theorem beq_dec (a b : Int) : (a == b) = decide (a = b) := by by_cases h : a = b <;> simp [h]
theorem eqIn_bool {P : Program} {t : TypeId} (d : Nat) (hu : P.underlying t = some .bool) (a c : Bool) (w : World) : (Op.equalIn (d + 1) t (.bool a) (.bool c)).run P w = .ok (a == c) w := by
  simp [Op.equalIn, run_underlying hu]
theorem eqIn_nil {P : Program} {t : TypeId} (d : Nat) {m : Array (String × TypeId)} (hu : P.underlying t = some (.interface m)) (w : World) : (Op.equalIn (d + 1) t .nilIface .nilIface).run P w = .ok true w := by
  simp [Op.equalIn, run_underlying hu]
theorem eqIn_some {P : Program} {t : TypeId} (d : Nat) {m : Array (String × TypeId)} (hu : P.underlying t = some (.interface m)) (u : TypeId) (v : Value) (w : World) : (Op.equalIn (d + 1) t (.iface u v) .nilIface).run P w = .ok false w := by
  simp [Op.equalIn, run_underlying hu]
theorem run_eql {P : Program} {t : TypeId} {x y : Value} {r : Bool} {w : World} (h : (Op.equalIn (9999 + 1) t x y).run P w = .ok r w) :
    ((do pure (.bool (← Op.equal t x y)) : Sem Value).run P w = .ok (.bool r) w) ∧ ((do pure (.bool (!(← Op.equal t x y))) : Sem Value).run P w = .ok (.bool (!r)) w) := by
  have h' : (Op.equal t x y).run P w = .ok r w := h
  constructor <;> simp only [Sem.run_bind, h', Result.andThen] <;> rfl
theorem lit0_ok (ρ : Env) (z : Int) : R.ok ρ ⟨.c z, z, z⟩ := ⟨Int.le_refl _, Int.le_refl _⟩

theorem sBin_ok {P : Program} {op : BinOp} {t yt : TypeId} {xo yo : Operand} {x y v : SV} {ρ : Env} {b : Bd} {N : Nat → Prop} (h : sBin P op t (isConstO xo || isConstO yo) x y = some v) (hx : x.ok ρ N) (hy : y.ok ρ N) (w : World) :
    (do eqGuard op t xo yo (x.den ρ b) (y.den ρ b); binOp op t (x.den ρ b) (y.den ρ b) : Sem Value).run P w = .ok (v.den ρ b) w ∧ v.ok ρ N := by
  unfold sBin at h
  split at h
  · rename_i k a k' c
    split at h
    · rename_i hop
      subst hop
      split at h
      · rename_i h1
        obtain ⟨h1, h2, h3, h4⟩ := h1
        cases h
        obtain ⟨y1, y2⟩ := hy
        obtain ⟨x1, x2⟩ := hx
        have e1 : c.e.i ρ = c.lo := by omega
        have e2 : min (c.lo.toNat) k.bits = c.lo.toNat := by rw [h4]; omega
        have hp : (0 : Int) < 2 ^ c.lo.toNat := Int.pow_pos (by omega)
        refine ⟨?_, ?_, ?_⟩
        · have g : (eqGuard BinOp.shr t xo yo (.int k (a.e.i ρ)) (.int k' (c.e.i ρ))).run P w = .ok () w := by
            unfold eqGuard; simp
          simp only [SV.den, Sem.run_bind, g, Result.andThen]
          simp only [binOp, Op.shift, e1, e2]
          rw [if_neg (by omega), Int.fdiv_eq_ediv_of_nonneg _ (Int.le_of_lt hp)]
          simp [E.i]
        · exact Int.ediv_le_ediv hp x1
        · exact Int.ediv_le_ediv hp x2
      · cases h
    rename_i hns
    split at h
    · rename_i hk
      subst hk
      have g : (eqGuard op t xo yo (.int k (a.e.i ρ)) (.int k (c.e.i ρ))).run P w = .ok () w := by
        unfold eqGuard; split <;> simp
      simp only [SV.den, Sem.run_bind, g, Result.andThen]
      cases op <;> simp only at h
      case add => cases h; have := radd_ok k hx hy; exact ⟨by simp [binOp, Op.intArith, SV.den, this.2], this.1⟩
      case sub => cases h; have := rsub_ok k hx hy; exact ⟨by simp [binOp, Op.intArith, SV.den, this.2], this.1⟩
      case mul => cases h; have := rmul_ok k hx hy; exact ⟨by simp [binOp, Op.intArith, SV.den, this.2], this.1⟩
      case quo =>
        split at h
        · rename_i h1
          cases h
          have := rquo_ok k hx hy h1
          have hne : c.e.i ρ ≠ 0 := by have := hy.1; omega
          exact ⟨by simp [binOp, Op.intDiv, SV.den, this.2, hne], this.1⟩
        · cases h
      case rem =>
        split at h
        · rename_i h1
          cases h
          have := rrem_ok hx hy h1
          have hne : c.e.i ρ ≠ 0 := by have := hy.1; omega
          exact ⟨by simp [binOp, Op.intDiv, SV.den, this.2, hne], this.1⟩
        · cases h
      case eql => cases h; exact ⟨by simp [binOp, Op.intCmp, SV.den, req_b hx hy, beq_dec], trivial⟩
      case neq => cases h; exact ⟨by simp [binOp, Op.intCmp, SV.den, mkNot_b, req_b hx hy, bne, beq_dec], trivial⟩
      case lss => cases h; exact ⟨by simp [binOp, Op.intCmp, SV.den, rlt_b hx hy], trivial⟩
      case leq => cases h; exact ⟨by simp [binOp, Op.intCmp, SV.den, rle_b hx hy], trivial⟩
      case gtr => cases h; exact ⟨by simp [binOp, Op.intCmp, SV.den, rlt_b hy hx], trivial⟩
      case geq => cases h; exact ⟨by simp [binOp, Op.intCmp, SV.den, rle_b hy hx], trivial⟩
      all_goals cases h
    · cases h
  · rename_i a c
    have g : (eqGuard op t xo yo (.bool (a.b ρ)) (.bool (c.b ρ))).run P w = .ok () w := by
      unfold eqGuard; split <;> simp
    simp only [SV.den, Sem.run_bind, g, Result.andThen]
    split at h
    · rename_i hu
      cases h
      exact ⟨by simp only [SV.den, mkBeq_b]; exact (run_eql (eqIn_bool 9999 hu _ _ w)).1, trivial⟩
    · rename_i hu
      cases h
      exact ⟨by simp only [SV.den, mkBeq_b, mkNot_b]; exact (run_eql (eqIn_bool 9999 hu _ _ w)).2, trivial⟩
    · cases h
  · split at h
    · rename_i hu
      split at h
      · rename_i hnk
        split at h
        · have g : (eqGuard op t xo yo .nilIface .nilIface).run P w = .ok () w := by
            cases xo <;> cases yo <;> simp [isConstO] at hnk <;> cases op <;> simp [eqGuard]
          simp only [SV.den, Sem.run_bind, g, Result.andThen]
          cases op <;> simp only at h <;> cases h
          · exact ⟨(run_eql (eqIn_nil 9999 hu w)).1, trivial⟩
          · exact ⟨(run_eql (eqIn_nil 9999 hu w)).2, trivial⟩
        · rename_i ti vi
          have g : (eqGuard op t xo yo (.iface ti (vi.den ρ b)) .nilIface).run P w = .ok () w := by
            unfold eqGuard; split <;> simp
          simp only [SV.den, Sem.run_bind, g, Result.andThen]
          cases op <;> simp only at h <;> cases h
          · exact ⟨(run_eql (eqIn_some 9999 hu _ _ w)).1, trivial⟩
          · exact ⟨(run_eql (eqIn_some 9999 hu _ _ w)).2, trivial⟩
        · rename_i r
          have hr := req_b hx (lit0_ok ρ 0)
          simp only [SV.den]
          split
          · rename_i h0
            have hr' : (req r ⟨.c 0, 0, 0⟩).b ρ = true := by rw [hr]; simp [h0, E.i]
            have g : (eqGuard op t xo yo .nilIface .nilIface).run P w = .ok () w := by
              cases xo <;> cases yo <;> simp [isConstO] at hnk <;> cases op <;> simp [eqGuard]
            simp only [Sem.run_bind, g, Result.andThen]
            cases op <;> simp only at h <;> cases h
            · exact ⟨by simp only [SV.den, hr']; exact (run_eql (eqIn_nil 9999 hu w)).1, trivial⟩
            · exact ⟨by simp only [SV.den, mkNot_b, hr']; exact (run_eql (eqIn_nil 9999 hu w)).2, trivial⟩
          · rename_i h0
            have hr' : (req r ⟨.c 0, 0, 0⟩).b ρ = false := by rw [hr]; simp [h0, E.i]
            have g : (eqGuard op t xo yo (.iface ρ.et (.int .i64 (r.e.i ρ))) .nilIface).run P w = .ok () w := by
              unfold eqGuard; split <;> simp
            simp only [Sem.run_bind, g, Result.andThen]
            cases op <;> simp only at h <;> cases h
            · exact ⟨by simp only [SV.den, hr']; exact (run_eql (eqIn_some 9999 hu _ _ w)).1, trivial⟩
            · exact ⟨by simp only [SV.den, mkNot_b, hr']; exact (run_eql (eqIn_some 9999 hu _ _ w)).2, trivial⟩
        · cases h
      · cases h
    · cases h
  · cases h

def sUn (op : UnOp) (x : SV) : Option SV :=
  match op, x with
  | .neg, .int k a => some (.int k (rsub k ⟨.c 0, 0, 0⟩ a))
  | .not, .bool a => some (.bool (mkNot a))
  | _, _ => none
theorem sUn_ok {P : Program} {op : UnOp} {x v : SV} {ρ : Env} {b : Bd} {N : Nat → Prop} (h : sUn op x = some v) (hx : x.ok ρ N) (w : World) : (Op.unary op (x.den ρ b)).run P w = .ok (v.den ρ b) w ∧ v.ok ρ N := by
  unfold sUn at h
  split at h
  · cases h
    have := rsub_ok (ρ := ρ) ‹_› (lit0_ok ρ 0) hx
    exact ⟨by simp only [SV.den, Op.unary, Op.intArith, this.2]; rfl, this.1⟩
  · cases h
    exact ⟨by simp [SV.den, Op.unary, mkNot_b], trivial⟩
  · cases h

def sConv (P : Program) (src dst : TypeId) (x : SV) : Option SV :=
  match x with
  | .int _ r =>
    match P.underlying src, P.underlying dst with
    | some _, some (.int k) => some (.int k (fit k r.e r.lo r.hi))
    | _, _ => none
  | _ => none
theorem sConv_ok {P : Program} {src dst : TypeId} {x v : SV} {ρ : Env} {b : Bd} {N : Nat → Prop} (h : sConv P src dst x = some v) (hx : x.ok ρ N) (w : World) : (convert src dst (x.den ρ b)).run P w = .ok (v.den ρ b) w ∧ v.ok ρ N := by
  unfold sConv at h
  split at h
  · rename_i k0 r
    split at h
    · rename_i d k hs hd
      cases h
      have := fit_ok ρ k r.e r.lo r.hi hx.1 hx.2
      exact ⟨by simp [convert, run_underlying hs, run_underlying hd, Conv.intToInt, SV.den, this.2], this.1⟩
    · cases h
  · cases h

def mrg (et : TypeId) (d : E) : SV → SV → Option SV
  | .int k a, .int j c => if k = j then some (.int k (rite d a c)) else none
  | .bool a, .bool c => some (.bool (mkIteB d a c))
  | .nilp, .nilp => some .nilp
  | .ptr n o, .ptr m p => if n = m ∧ o = p then some (.ptr n o) else none
  | .nils, .nils => some .nils
  | .sl n o l c, .sl m p k e => if n = m ∧ o = p ∧ l = k ∧ c = e then some (.sl n o l c) else none
  | .slv n o l, .slv m p k => if n = m ∧ o = p ∧ l.e.same k.e = true ∧ l.lo = k.lo ∧ l.hi = k.hi then some (.slv n o l) else none
  | .esl n i, .esl m j => if n = m ∧ i.same j = true then some (.esl n i) else none
  | .osl n s l, .osl m t k => if n = m ∧ s = t ∧ l.e.same k.e = true ∧ l.lo = k.lo ∧ l.hi = k.hi then some (.osl n s l) else none
  | .nili, .nili => some .nili
  | .err a, .err c => some (.err (rite d a c))
  | .nili, .err c => some (.err (rite d ⟨.c 0, 0, 0⟩ c))
  | .err a, .nili => some (.err (rite d a ⟨.c 0, 0, 0⟩))
  | .ifc t (.int .i64 a), .nili => if t = et ∧ 1 ≤ a.lo then some (.err (rite d a ⟨.c 0, 0, 0⟩)) else none
  | .nili, .ifc t (.int .i64 a) => if t = et ∧ 1 ≤ a.lo then some (.err (rite d ⟨.c 0, 0, 0⟩ a)) else none
  | .ifc t (.int .i64 a), .err c => if t = et ∧ 1 ≤ a.lo then some (.err (rite d a c)) else none
  | .err c, .ifc t (.int .i64 a) => if t = et ∧ 1 ≤ a.lo then some (.err (rite d c a)) else none
  | .ifc t (.int k a), .ifc u (.int j c) => if t = u ∧ k = j then some (.ifc t (.int k (rite d a c))) else none
  | .nilf, .nilf => some .nilf
  | _, _ => none
end Go.Proofs.Ytdfpenjhpemokaa.Sx
