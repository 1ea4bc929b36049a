/-
  Shares: what is taken, the sums, the levels; handlers.
-/
import Derived.Test.YtdfpenjhpemokaaShareK
import Derived.Test.YtdfpenjhpemokaaSxNew
import Derived.Test.YtdfpenjhpemokaaSxStd
import Derived.Test.YtdfpenjhpemokaaSxLaw
import Derived.Test.YtdfpenjhpemokaaAct5
import Derived.Test.YtdfpenjhpemokaaSxDen
set_option linter.unusedVariables false
set_option linter.unusedSimpArgs false
namespace Go.Proofs.Ytdfpenjhpemokaa.Sx
open Go.RowKit
def ptk (t r is : Int) (o : Bool) (x : Int) : Int := if o = true then 0 else min (max x (max (is - r) (-t))) (min (is + r) t)
def ptotS (g : GD) (t r x : Int) : Nat → Int
  | 0 => 0
  | k + 1 => ptotS g t r x k + ptk t r (g.fi k 0) (g.fb k 2) x
def psm (g : GD) (t r s c : Int) (n : Nat) : Nat → Int
  | 0 => if pactRule t r s c = 0 then (if 1 ≤ n ∧ n ≤ 4 then 0 else 2) else 1
  | k + 1 => if psm g t r s c n k = 0 then pservo t r s c (g.fi k 0) (g.fi k 1) (g.fb k 2) else psm g t r s c n k
def pspreadMay (g : GD) (t r s c : Int) : Int := psm g t r s c g.n g.n
def plevS (g : GD) (t r sum : Int) : Int := plev (fun x => ptotS g t r x g.n) sum t
def pclipS (g : GD) (t r sum : Int) : Int := min (max sum (ptotS g t r (-t) g.n)) (ptotS g t r t g.n)
def plvl (g : GD) (t r sum : Int) : Int := plevS g t r (pclipS g t r sum)
def pleft (g : GD) (t r sum : Int) : Nat → Int
  | 0 => pclipS g t r sum - ptotS g t r (plvl g t r sum) g.n
  | k + 1 => if 0 < pleft g t r sum k ∧ ptk t r (g.fi k 0) (g.fb k 2) (plvl g t r sum) < ptk t r (g.fi k 0) (g.fb k 2) (plvl g t r sum + 1) then pleft g t r sum k - 1 else pleft g t r sum k
def pspr (g : GD) (t r sum : Int) (k : Nat) : Int :=
  if 0 < pleft g t r sum k ∧ ptk t r (g.fi k 0) (g.fb k 2) (plvl g t r sum) < ptk t r (g.fi k 0) (g.fb k 2) (plvl g t r sum + 1) then ptk t r (g.fi k 0) (g.fb k 2) (plvl g t r sum) + 1 else ptk t r (g.fi k 0) (g.fb k 2) (plvl g t r sum)
def dec (l : List Int) (i : Nat) : Part := match l.drop (3 * i) with
  | f :: a :: b :: _ => if f = 0 then none else some (a, b)
  | _ => none
def plo (t r s c is bad : Int) (o : Bool) : Int := if pservo t r s c is bad o = 0 ∧ o = false then prlo t r is else 0
def phi (t r s c is bad : Int) (o : Bool) : Int := if pservo t r s c is bad o = 0 ∧ o = false then prhi t r is else 0
def shF (G : Nat → GD) (id : Nat) (l : List Int) : Int := match id, l with
  | 83, [t, r, is, o, x] => ptk t r is (decide (o = 1)) x
  | 84, [k, t, r, x] => ptotS (G k.toNat) t r x (G k.toNat).n
  | 85, s :: m :: l => plev (fun x => ptot (dec l) x (l.length / 3)) s m
  | 86, [k, t, r, s, i] => pspr (G k.toNat) t r s i.toNat
  | 87, [k, t, r, s, c] => pspreadMay (G k.toNat) t r s c
  | 88, [t, r, s, c, is, bad, o] => pservo t r s c is bad (decide (o = 1))
  | 89, [t, r, s, c] => pactRule t r s c
  | 90, x :: l => ptot (dec l) x (l.length / 3)
  | 91, [x, lo, hi] => pclip x lo hi
  | 92, [t, r, s, c, is, bad, o] => plo t r s c is bad (decide (o = 1))
  | 93, [t, r, s, c, is, bad, o] => phi t r s c is bad (decide (o = 1))
  | _, _ => 0
theorem ptk_bd {t r s c is bad : Int} {o : Bool} (h : pservo t r s c is bad o = 0) (x : Int) : -t ≤ ptk t r is o x ∧ ptk t r is o x ≤ t := by
  obtain ⟨⟨a1, a2, a3, a4, a5, a6, a7, a8⟩, b1, b2, b3, b4, _, _⟩ := pservo_0 h
  unfold ptk
  split <;> omega
theorem psm_step {g : GD} {t r s c : Int} {n k : Nat} (h : psm g t r s c n (k + 1) = 0) : psm g t r s c n k = 0 ∧ pservo t r s c (g.fi k 0) (g.fi k 1) (g.fb k 2) = 0 := by
  simp only [psm] at h
  split at h
  · exact ⟨by assumption, h⟩
  · exact absurd h (by assumption)
theorem psm_all {g : GD} {t r s c : Int} {n : Nat} : ∀ k, psm g t r s c n k = 0 → AFine t r s c ∧ 1 ≤ n ∧ n ≤ 4 ∧ ∀ i, i < k → pservo t r s c (g.fi i 0) (g.fi i 1) (g.fb i 2) = 0
  | 0, h => by
    simp only [psm] at h
    split at h
    · rename_i ha
      split at h
      · rename_i hb; exact ⟨pactRule_0 ha, hb.1, hb.2, fun i hi => absurd hi (Nat.not_lt_zero _)⟩
      · exact absurd h (by decide)
    · exact absurd h (by decide)
  | k + 1, h => by
    obtain ⟨h1, h2⟩ := psm_step h
    obtain ⟨a, b, c', d⟩ := psm_all k h1
    refine ⟨a, b, c', fun i hi => ?_⟩
    rcases Nat.lt_or_ge i k with hlt | hge
    · exact d i hlt
    · obtain rfl : i = k := by omega
      exact h2
theorem ptotS_bd {g : GD} {t r s c : Int} {n : Nat} : ∀ k, (∀ i, i < k → pservo t r s c (g.fi i 0) (g.fi i 1) (g.fb i 2) = 0) → ∀ x, -t * k ≤ ptotS g t r x k ∧ ptotS g t r x k ≤ t * k
  | 0, _, x => by simp [ptotS]
  | k + 1, h, x => by
    have h1 := ptotS_bd (n := n) k (fun i hi => h i (by omega)) x
    have h2 := ptk_bd (h k (by omega)) x
    simp only [ptotS]
    have e1 : t * ((k + 1 : Nat) : Int) = t * k + t := by push_cast; rw [Int.mul_add, Int.mul_one]
    have e2 : -t * ((k + 1 : Nat) : Int) = -t * k + -t := by push_cast; rw [Int.mul_add, Int.mul_one]
    rw [e1, e2]
    omega
theorem ptotS_bd4 {g : GD} {t r s c : Int} (h : pspreadMay g t r s c = 0) (x : Int) : -4000 ≤ ptotS g t r x g.n ∧ ptotS g t r x g.n ≤ 4000 := by
  obtain ⟨⟨a1, a2, _⟩, _, b2, b3⟩ := psm_all _ h
  have hb := ptotS_bd (n := 0) g.n b3 x
  have m1 : t * (g.n : Int) ≤ 1000 * 4 := Int.mul_le_mul a2 (by omega) (by omega) (by omega)
  have m2 : -t * (g.n : Int) = -(t * g.n) := Int.neg_mul _ _
  rw [m2] at hb
  omega
def takenP (args : List SV) : Option (List E × SV) := match args with
  | [.agg [.int .i64 t, .int .i64 r, .int .i64 s, .int .i64 c], .agg [.int .i64 x, .int .i64 y, .bool o], .int .i64 l] => if (y.in64 && l.in64) = true then some ([.bin .eq (.ap 88 (.cons t.e (.cons r.e (.cons s.e (.cons c.e (.cons x.e (.cons y.e (.cons (.ite o (.c 1) (.c 0)) .nil)))))))) (.c 0)], .int .i64 ⟨.ap 83 (.cons t.e (.cons r.e (.cons x.e (.cons (.ite o (.c 1) (.c 0)) (.cons l.e .nil))))), -1000, 1000⟩) else none
  | _ => none
section
variable {fb : (Nat → GD) → Nat → List Int → Bool} {G : Nat → GD} {ρ : Env}
theorem den_bool (ρ : Env) (b : Bd) (e : E) : (SV.bool e).den ρ b = .bool (e.b ρ) := by simp only [SV.den]
theorem dec01 (c : Bool) : decide ((if c = true then (1 : Int) else 0) = 1) = c := by cases c <;> rfl
theorem taken_ok {F : FuncId} (h : Std shF fb G ρ)
    (hc : ∀ (t r s c x y : Int) (o : Bool) (l : Int) (w : World), pservo t r s c x y o = 0 → B64 y → B64 l → Calls Try.prog F #[.agg #[.int .i64 t, .int .i64 r, .int .i64 s, .int .i64 c], .agg #[.int .i64 x, .int .i64 y, .bool o], .int .i64 l] w fun e w' => e = .returned (.int .i64 (ptk t r x o l)) ∧ Below w.heap.size w w') : HOK Try.prog ρ (argSum F takenP) := by
  refine argSum_ok fun args gs v hp hg b base w N hok hm hbase => ?_
  unfold takenP at hp
  split at hp
  · rename_i t r s c x y o l
    split at hp
    rotate_left
    · cases hp
    rename_i hin
    rw [Bool.and_eq_true] at hin
    obtain ⟨_, ⟨_, k2, _⟩, k3, _⟩ := hok
    cases hp
    have g1 : ρ.fn 88 [t.e.i ρ, r.e.i ρ, s.e.i ρ, c.e.i ρ, x.e.i ρ, y.e.i ρ, if o.b ρ = true then 1 else 0] = 0 := of_decide_eq_true (hg _ (.head _))
    rw [h.f rfl] at g1
    have g1 : pservo (t.e.i ρ) (r.e.i ρ) (s.e.i ρ) (c.e.i ρ) (x.e.i ρ) (y.e.i ρ) (decide ((if o.b ρ = true then (1 : Int) else 0) = 1)) = 0 := g1
    rw [dec01] at g1
    simp only [SV.denL, den_agg, den_int, den_bool]
    refine (hc _ _ _ _ _ _ _ _ w g1 (R.in64_ok hin.1 k2) (R.in64_ok hin.2 k3)).mono ?_
    rintro e w' ⟨h2, h3⟩
    have e2 : (E.ap 83 (.cons t.e (.cons r.e (.cons x.e (.cons (.ite o (.c 1) (.c 0)) (.cons l.e .nil)))))).i ρ = ptk (t.e.i ρ) (r.e.i ρ) (x.e.i ρ) (o.b ρ) (l.e.i ρ) := by
      simp only [E.i, E.l]
      rw [h.f rfl]
      show ptk _ _ _ (decide _) _ = _
      rw [dec01]
    refine ⟨by rw [h2, e2], ?_, h3⟩
    simp only [SV.ok, R.ok, e2]
    have hb := ptk_bd g1 (l.e.i ρ)
    obtain ⟨⟨_, a2, _⟩, _⟩ := pservo_0 g1
    omega
  · cases hp
end
theorem Std.eb {fn : (Nat → GD) → Nat → List Int → Int} {fb : (Nat → GD) → Nat → List Int → Bool} {G : Nat → GD} {ρ : Env} (h : Std fn fb G ρ) {k j : Nat} (hj : Nat.blt j 100 = true) (i : Int) : ρ.fb (1000 + 100 * k + j) [i] = (G k).fb i.toNat j := by
  have := blt_lt hj
  rw [h.fb]
  simp only
  rw [if_pos (by omega)]
  have e2 : (1000 + 100 * k + j - 1000) / 100 = k := by omega
  have e3 : (1000 + 100 * k + j) % 100 = j := by omega
  rw [e2, e3]
  rfl
def sTSum : Handler := argSum 155 takenP
end Go.Proofs.Ytdfpenjhpemokaa.Sx
