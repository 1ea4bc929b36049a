/-
  The plain law of TopShare: surfaces come to the sum that is asked, and to be even. No program in sight.
-/
import Derived.Test.YtdfpenjhpemokaaShareP
import Derived.Test.YtdfpenjhpemokaaShareT
import Derived.Test.YtdfpenjhpemokaaWShareMade
import Derived.Test.YtdfpenjhpemokaaAct7
import Derived.Deep.DeepCutAuto
import Derived.Test.YtdfpenjhpemokaaTop
import Derived.Test.YtdfpenjhpemokaaBound2
set_option linter.unusedVariables false
namespace Go.Proofs.Ytdfpenjhpemokaa.Sx
open Go.RowKit
def TsSit (t : Int) (n : Nat) (x : Nat → Int) (o : Nat → Bool) : Prop := ∀ i, i < n → -t ≤ x i ∧ x i ≤ t ∧ (o i = true → x i = 0)
def tsTot (f : Nat → Int) : Nat → Int
  | 0 => 0
  | k + 1 => tsTot f k + f k
def tsIn (o : Nat → Bool) : Nat → Int
  | 0 => 0
  | k + 1 => tsIn o k + (if o k = true then 0 else 1)
theorem ts_tot_le {f h : Nat → Int} : ∀ n, (∀ i, i < n → f i ≤ h i) → tsTot f n ≤ tsTot h n
  | 0, _ => Int.le_refl _
  | k + 1, H => by
    have h1 := ts_tot_le k (fun i hi => H i (by omega))
    have h2 := H k (by omega)
    simp only [tsTot]
    omega
theorem ts_tot_eq_all {f h : Nat → Int} : ∀ n, (∀ i, i < n → f i ≤ h i) → tsTot h n ≤ tsTot f n → ∀ i, i < n → f i = h i
  | 0, _, _, i, hi => absurd hi (Nat.not_lt_zero _)
  | k + 1, H, E, i, hi => by
    have h1 := ts_tot_le k (fun i hi => H i (by omega))
    have h2 := H k (by omega)
    simp only [tsTot] at E
    by_cases hk : i = k
    · subst hk; omega
    · exact ts_tot_eq_all k (fun i hi => H i (by omega)) (by omega) i (by omega)
theorem ts_tot_congr {f h : Nat → Int} : ∀ n, (∀ i, i < n → f i = h i) → tsTot f n = tsTot h n
  | 0, _ => rfl
  | k + 1, H => by
    have h1 := ts_tot_congr k (fun i hi => H i (by omega))
    have h2 := H k (by omega)
    simp only [tsTot]
    omega
theorem ts_ptotS_tot (g : GD) (t r x : Int) : ∀ n, ptotS g t r x n = tsTot (fun k => ptk t r (g.fi k 0) (g.fb k 2) x) n
  | 0 => rfl
  | k + 1 => by
    have := ts_ptotS_tot g t r x k
    simp only [ptotS, tsTot]
    omega
theorem ts_tk_mono (t r is : Int) (o : Bool) {x y : Int} (h : x ≤ y) : ptk t r is o x ≤ ptk t r is o y := by
  unfold ptk
  split <;> omega
theorem ts_tk_step (t r is : Int) (o : Bool) (x : Int) : ptk t r is o (x + 1) ≤ ptk t r is o x + 1 := by
  unfold ptk
  split <;> omega
structure TsFr (t r S : Int) (n : Nat) (x : Nat → Int) (o : Nat → Bool) (y : Nat → Int) : Prop where
  sum : tsTot y n = min (max S (tsTot (fun i => ptk t r (x i) (o i) (-t)) n)) (tsTot (fun i => ptk t r (x i) (o i) t) n)
  lev : ∃ L, -t ≤ L ∧ L ≤ t ∧ (∀ i, i < n → ptk t r (x i) (o i) L ≤ y i ∧ y i ≤ ptk t r (x i) (o i) (L + 1)) ∧ (L = t ∨ tsTot y n < tsTot (fun i => ptk t r (x i) (o i) (L + 1)) n) ∧ tsTot (fun i => ptk t r (x i) (o i) L) n ≤ tsTot y n
theorem ts_plevN_spec {f : Int → Int} {s lo : Int} : ∀ k : Nat, f lo ≤ s → lo ≤ plevN f s lo k ∧ plevN f s lo k ≤ lo + k ∧ f (plevN f s lo k) ≤ s ∧ (plevN f s lo k = lo + k ∨ ((∀ x y, x ≤ y → f x ≤ f y) → s < f (plevN f s lo k + 1)))
  | 0, h => by simp [plevN, h]
  | k + 1, h => by
    obtain ⟨h1, h2, h3, h4⟩ := ts_plevN_spec k h
    simp only [plevN]
    split
    · rename_i hc
      refine ⟨by omega, by push_cast; omega, hc, .inl (by push_cast; rfl)⟩
    · rename_i hc
      refine ⟨h1, by push_cast; omega, h3, .inr fun hm => ?_⟩
      rcases h4 with h4 | h4
      · rw [h4]
        have : lo + (k : Int) + 1 = lo + ((k : Int) + 1) := by omega
        rw [this]
        omega
      · exact h4 hm
set_option maxHeartbeats 2000000 in
theorem ts_spr_fr (g : GD) (t r S : Int) (ht : 0 ≤ t) : TsFr t r S g.n (fun i => g.fi i 0) (fun i => g.fb i 2) (pspr g t r S) := by
  have hm : ∀ x y : Int, x ≤ y → (fun x => ptotS g t r x g.n) x ≤ (fun x => ptotS g t r x g.n) y := fun x y h => by
    simp only [ts_ptotS_tot]
    exact ts_tot_le _ fun i _ => ts_tk_mono _ _ _ _ h
  have hx := hm (-t) t (by omega)
  simp only at hx
  have hX : ptotS g t r (-t) g.n ≤ pclipS g t r S ∧ pclipS g t r S ≤ ptotS g t r t g.n := by unfold pclipS; omega
  obtain ⟨l1, l2, l3, l4⟩ := ts_plevN_spec (f := fun x => ptotS g t r x g.n) (s := pclipS g t r S) (lo := -t) (2 * t).toNat hX.1
  have l4' : plvl g t r S = t ∨ pclipS g t r S < ptotS g t r (plvl g t r S + 1) g.n := by
    rcases l4 with h | h
    · exact .inl (by show plevN _ _ _ _ = t; omega)
    · exact .inr (h hm)
  have l1' : -t ≤ plvl g t r S := l1
  have l2' : plvl g t r S ≤ t := by show plevN _ _ _ _ ≤ t; omega
  have l3' : ptotS g t r (plvl g t r S) g.n ≤ pclipS g t r S := l3
  clear l1 l2 l3 l4
  have key : ∀ k, tsTot (pspr g t r S) k = ptotS g t r (plvl g t r S) k + (pleft g t r S 0 - pleft g t r S k) ∧ 0 ≤ pleft g t r S k ∧ (0 < pleft g t r S k → tsTot (pspr g t r S) k = ptotS g t r (plvl g t r S + 1) k) := by
    intro k
    induction k with
    | zero => exact ⟨by simp [tsTot, ptotS], by show 0 ≤ _ - _; omega, fun _ => rfl⟩
    | succ k ih =>
      obtain ⟨i1, i2, i3⟩ := ih
      have st := ts_tk_step t r (g.fi k 0) (g.fb k 2) (plvl g t r S)
      have mo := ts_tk_mono t r (g.fi k 0) (g.fb k 2) (show plvl g t r S ≤ plvl g t r S + 1 by omega)
      simp only [tsTot, ptotS]
      have ep : pleft g t r S (k + 1) = if 0 < pleft g t r S k ∧ ptk t r (g.fi k 0) (g.fb k 2) (plvl g t r S) < ptk t r (g.fi k 0) (g.fb k 2) (plvl g t r S + 1) then pleft g t r S k - 1 else pleft g t r S k := rfl
      have es : pspr g t r S k = if 0 < pleft g t r S k ∧ ptk t r (g.fi k 0) (g.fb k 2) (plvl g t r S) < ptk t r (g.fi k 0) (g.fb k 2) (plvl g t r S + 1) then ptk t r (g.fi k 0) (g.fb k 2) (plvl g t r S) + 1 else ptk t r (g.fi k 0) (g.fb k 2) (plvl g t r S) := rfl
      rw [ep, es]
      split
      · rename_i hc
        have := i3 hc.1
        exact ⟨by omega, by omega, fun _ => by omega⟩
      · rename_i hc
        refine ⟨by omega, i2, fun hp => ?_⟩
        have := i3 hp
        have : ¬ ptk t r (g.fi k 0) (g.fb k 2) (plvl g t r S) < ptk t r (g.fi k 0) (g.fb k 2) (plvl g t r S + 1) := fun h => hc ⟨hp, h⟩
        omega
  obtain ⟨k1, k2, k3⟩ := key g.n
  have hsum : tsTot (pspr g t r S) g.n = pclipS g t r S := by
    have e0 : pleft g t r S 0 = pclipS g t r S - ptotS g t r (plvl g t r S) g.n := rfl
    by_cases hp : 0 < pleft g t r S g.n
    · have := k3 hp
      rcases l4' with h | h
      · have hL := hm (plvl g t r S) (plvl g t r S + 1) (by omega)
        simp only at hL
        have e1 : ptotS g t r (plvl g t r S) g.n = ptotS g t r t g.n := by rw [h]
        omega
      · omega
    · omega
  refine ⟨?_, plvl g t r S, l1', l2', fun i hi => ?_, ?_, ?_⟩
  · rw [hsum, ← ts_ptotS_tot, ← ts_ptotS_tot]
    rfl
  · have st := ts_tk_step t r (g.fi i 0) (g.fb i 2) (plvl g t r S)
    have mo := ts_tk_mono t r (g.fi i 0) (g.fb i 2) (show plvl g t r S ≤ plvl g t r S + 1 by omega)
    show _ ≤ pspr g t r S i ∧ pspr g t r S i ≤ _
    unfold pspr
    split
    · rename_i hc
      have := hc.2
      omega
    · omega
  · rw [hsum, ← ts_ptotS_tot]
    exact l4'
  · rw [hsum, ← ts_ptotS_tot]
    exact l3'
theorem TsFr.sit {t r S : Int} {n : Nat} {x y : Nat → Int} {o : Nat → Bool} (h : TsFr t r S n x o y) (hs : TsSit t n x o) (h1 : 1 ≤ r) (h2 : r ≤ t) : TsSit t n y o := by
  obtain ⟨_, L, a1, a2, a3, _⟩ := h
  intro i hi
  have b := a3 i hi
  have c := hs i hi
  unfold ptk at b
  cases ho : o i <;> simp only [ho] at b c ⊢
  · simp at b
    exact ⟨by omega, by omega, fun h => nomatch h⟩
  · simp at b
    exact ⟨by omega, by omega, fun _ => by omega⟩
def TsApart (n : Nat) (x : Nat → Int) (o : Nat → Bool) (d : Int) : Prop := ∀ i k, i < n → k < n → o i = false → o k = false → x i - x k ≤ d
theorem ts_max_at (x : Nat → Int) (o : Nat → Bool) : ∀ n, (∀ i, i < n → o i = true) ∨ ∃ k, k < n ∧ o k = false ∧ ∀ i, i < n → o i = false → x i ≤ x k
  | 0 => .inl fun i h => absurd h (Nat.not_lt_zero _)
  | n + 1 => by
    cases ho : o n with
    | true =>
      rcases ts_max_at x o n with h | ⟨k, h1, h2, h3⟩
      · exact .inl fun i hi => by
          by_cases e : i = n
          · rw [e]; exact ho
          · exact h i (by omega)
      · exact .inr ⟨k, by omega, h2, fun i hi hf => by
          by_cases e : i = n
          · rw [e, ho] at hf; cases hf
          · exact h3 i (by omega) hf⟩
    | false =>
      rcases ts_max_at x o n with h | ⟨k, h1, h2, h3⟩
      · exact .inr ⟨n, by omega, ho, fun i hi hf => by
          by_cases e : i = n
          · rw [e]; exact Int.le_refl _
          · rw [h i (by omega)] at hf; cases hf⟩
      · by_cases hl : x n ≤ x k
        · exact .inr ⟨k, by omega, h2, fun i hi hf => by
            by_cases e : i = n
            · rw [e]; exact hl
            · exact h3 i (by omega) hf⟩
        · exact .inr ⟨n, by omega, ho, fun i hi hf => by
            by_cases e : i = n
            · rw [e]; exact Int.le_refl _
            · have := h3 i (by omega) hf; omega⟩
theorem ts_min_at (x : Nat → Int) (o : Nat → Bool) (n : Nat) : (∀ i, i < n → o i = true) ∨ ∃ k, k < n ∧ o k = false ∧ ∀ i, i < n → o i = false → x k ≤ x i := by
  rcases ts_max_at (fun i => -x i) o n with h | ⟨k, h1, h2, h3⟩
  · exact .inl h
  · exact .inr ⟨k, h1, h2, fun i hi hf => by have := h3 i hi hf; omega⟩
set_option maxHeartbeats 2000000 in
theorem TsFr.even {t r S : Int} {n : Nat} {x y : Nat → Int} {o : Nat → Bool} (h : TsFr t r S n x o y) (hs : TsSit t n x o) (h1 : 1 ≤ r) (h2 : r ≤ t) (he : tsTot y n = tsTot x n) {d : Int} (ha : TsApart n x o d) : TsApart n y o (max 1 (d - r)) := by
  obtain ⟨_, L, a1, a2, a3, a4, a5⟩ := h
  rcases ts_max_at x o n with hm | ⟨M, m1, m2, m3⟩
  · intro i k hi _ ho
    rw [hm i hi] at ho
    cases ho
  rcases ts_min_at x o n with hm | ⟨m, m4, m5, m6⟩
  · intro i k hi _ ho
    rw [hm i hi] at ho
    cases ho
  have hM := hs M m1
  have hmm := hs m m4
  have hd := ha M m m1 m4 m2 m5
  rw [he] at a4 a5
  -- below the lowest
  have q1 : m = m := rfl
  have hlo : x m ≤ L := by
    by_cases hc : x m ≤ L
    · exact hc
    · exfalso
      rcases a4 with a4 | a4
      · omega
      · have : tsTot (fun i => ptk t r (x i) (o i) (L + 1)) n ≤ tsTot x n := ts_tot_le n fun i hi => by
          have c := hs i hi
          show ptk t r (x i) (o i) (L + 1) ≤ x i
          unfold ptk
          cases ho : o i
          · have := m6 i hi ho
            simp
            omega
          · have := c.2.2 ho
            simp
            omega
        omega
  by_cases hhi : L < x M
  · intro i k hi hk oi ok
    have b := a3 i hi
    have c := a3 k hk
    have ci := hs i hi
    have ck := hs k hk
    have di := m3 i hi oi
    have dk := m6 k hk ok
    unfold ptk at b c
    simp only [oi, ok] at b c
    simp at b c
    omega
  · -- nobody is above the level: all are there
    have hge : ∀ i, i < n → x i ≤ ptk t r (x i) (o i) L := fun i hi => by
      have c := hs i hi
      unfold ptk
      cases ho : o i
      · have := m3 i hi ho
        simp
        omega
      · have := c.2.2 ho
        simp
        omega
    have heq := ts_tot_eq_all n hge (by omega)
    have hge2 : ∀ i, i < n → ptk t r (x i) (o i) L ≤ y i := fun i hi => (a3 i hi).1
    have heq2 := ts_tot_eq_all (f := x) (h := y) n (fun i hi => Int.le_trans (hge i hi) (hge2 i hi)) (by omega)
    intro i k hi hk oi ok
    have b1 := heq i hi
    have b2 := heq k hk
    have e1 := heq2 i hi
    have e2 := heq2 k hk
    have ci := hs i hi
    have ck := hs k hk
    have di := m3 i hi oi
    have dk := m3 k hk ok
    unfold ptk at b1 b2
    simp only [oi, ok] at b1 b2
    simp at b1 b2
    omega
def tsGoal (t S : Int) (o : Nat → Bool) (n : Nat) : Int := min (max S (-(tsIn o n * t))) (tsIn o n * t)
theorem ts_ins_bd (o : Nat → Bool) : ∀ n : Nat, 0 ≤ tsIn o n ∧ tsIn o n ≤ n
  | 0 => by simp [tsIn]
  | k + 1 => by
    have := ts_ins_bd o k
    simp only [tsIn]
    split <;> (push_cast; omega)
def TsInv (t r S K a : Int) (n : Nat) (x : Nat → Int) (o : Nat → Bool) : Prop :=
  (tsTot x n < tsGoal t S o n ∧ ∀ i, i < n → o i = false → min t (a - t) ≤ x i) ∨
  (tsGoal t S o n < tsTot x n ∧ ∀ i, i < n → o i = false → x i ≤ max (-t) (t - a)) ∨
  (tsTot x n = tsGoal t S o n ∧ TsApart n x o (max 1 (2 * t - (a - K))))
theorem ts_tot_const (o : Nat → Bool) (c : Int) : ∀ n, tsTot (fun i => if o i = true then 0 else c) n = tsIn o n * c
  | 0 => by simp [tsTot, tsIn]
  | k + 1 => by
    have := ts_tot_const o c k
    simp only [tsTot, tsIn, this]
    split
    · simp
    · rw [Int.add_mul]; simp
theorem ts_tot_top {t : Int} {n : Nat} {x : Nat → Int} {o : Nat → Bool} (hs : TsSit t n x o) : tsTot x n ≤ tsIn o n * t ∧ -(tsIn o n * t) ≤ tsTot x n := by
  constructor
  · rw [← ts_tot_const]
    exact ts_tot_le n fun i hi => by
      have := hs i hi
      show x i ≤ if o i = true then 0 else t
      split
      · have := this.2.2 (by assumption); omega
      · omega
  · have e : -(tsIn o n * t) = tsIn o n * -t := by rw [Int.mul_neg]
    rw [e, ← ts_tot_const]
    exact ts_tot_le n fun i hi => by
      have := hs i hi
      show (if o i = true then 0 else -t) ≤ x i
      split
      · have := this.2.2 (by assumption); omega
      · omega
theorem ts_tot_full {t : Int} {n : Nat} {x : Nat → Int} {o : Nat → Bool} (hs : TsSit t n x o) (h : ∀ i, i < n → o i = false → t ≤ x i) : tsTot x n = tsIn o n * t := by
  refine Int.le_antisymm (ts_tot_top hs).1 ?_
  rw [← ts_tot_const]
  exact ts_tot_le n fun i hi => by
    show (if o i = true then 0 else t) ≤ x i
    cases ho : o i
    · simpa using h i hi ho
    · simp [(hs i hi).2.2 ho]
theorem ts_tot_low {t : Int} {n : Nat} {x : Nat → Int} {o : Nat → Bool} (hs : TsSit t n x o) (h : ∀ i, i < n → o i = false → x i ≤ -t) : tsTot x n = -(tsIn o n * t) := by
  refine Int.le_antisymm ?_ (ts_tot_top hs).2
  rw [← Int.mul_neg, ← ts_tot_const]
  exact ts_tot_le n fun i hi => by
    show x i ≤ (if o i = true then 0 else -t)
    cases ho : o i
    · simpa using h i hi ho
    · simp [(hs i hi).2.2 ho]
theorem ts_sit_tk {t r l : Int} {n : Nat} {x : Nat → Int} {o : Nat → Bool} (hs : TsSit t n x o) (h1 : 1 ≤ r) (h2 : r ≤ t) : TsSit t n (fun i => ptk t r (x i) (o i) l) o := fun i hi => by
  have c := hs i hi
  show -t ≤ ptk t r (x i) (o i) l ∧ ptk t r (x i) (o i) l ≤ t ∧ (o i = true → ptk t r (x i) (o i) l = 0)
  unfold ptk
  cases ho : o i
  · simp
    omega
  · simp
    omega
set_option maxHeartbeats 2000000 in
theorem TsFr.inv {t r S K a : Int} {n : Nat} {x y : Nat → Int} {o : Nat → Bool} (h : TsFr t r S n x o y) (hs : TsSit t n x o) (h1 : 1 ≤ r) (h2 : r ≤ t) (hK : 2 * t ≤ K) (ha : a < 2 * t → a + r ≤ K) (hi : TsInv t r S K a n x o) : TsInv t r S K (a + r) n y o := by
  have ht := ts_tot_top hs
  have hy := h.sit hs h1 h2
  have hty := ts_tot_top hy
  have hlo := ts_tot_top (ts_sit_tk (l := -t) hs h1 h2)
  have hhi := ts_tot_top (ts_sit_tk (l := t) hs h1 h2)
  have hxl : tsTot (fun i => ptk t r (x i) (o i) (-t)) n ≤ tsTot x n := ts_tot_le n fun i hi => by
    have c := hs i hi
    show ptk t r (x i) (o i) (-t) ≤ x i
    unfold ptk
    cases ho : o i
    · simp
      omega
    · have := c.2.2 ho
      simp
      omega
  have hxh : tsTot x n ≤ tsTot (fun i => ptk t r (x i) (o i) t) n := ts_tot_le n fun i hi => by
    have c := hs i hi
    show x i ≤ ptk t r (x i) (o i) t
    unfold ptk
    cases ho : o i
    · simp
      omega
    · have := c.2.2 ho
      simp
      omega
  have hwide : ∀ d, 2 * t ≤ d → TsApart n y o d := fun d hd i k hi hk oi ok => by
    have := hy i hi
    have := hy k hk
    omega
  have hle : ∀ i, i < n → ptk t r (x i) (o i) (-t) ≤ y i ∧ y i ≤ ptk t r (x i) (o i) t := fun i hi => by
    obtain ⟨_, L, l1, l2, l3, _⟩ := h
    have b := l3 i hi
    have c := hs i hi
    unfold ptk at *
    cases ho : o i <;> simp only [ho] at b ⊢ <;> simp at b ⊢ <;> omega
  have e := h.sum
  unfold TsInv at *
  unfold tsGoal at *
  rcases hi with ⟨i1, i2⟩ | ⟨i1, i2⟩ | ⟨i1, i2⟩
  · have hlt : a < 2 * t := by
      by_cases hc : a < 2 * t
      · exact hc
      · have := ts_tot_full hs (fun i hi ho => by have := i2 i hi ho; omega)
        omega
    have hK2 := ha hlt
    by_cases hr : min (max S (-(tsIn o n * t))) (tsIn o n * t) ≤ tsTot (fun i => ptk t r (x i) (o i) t) n
    · exact .inr (.inr ⟨by omega, hwide _ (by omega)⟩)
    · have hall := ts_tot_eq_all n (fun i hi => (hle i hi).2) (by omega)
      refine .inl ⟨by omega, fun i hi ho => ?_⟩
      have b := hall i hi
      have c := i2 i hi ho
      have d := hs i hi
      unfold ptk at b
      simp only [ho] at b
      simp at b
      omega
  · have hlt : a < 2 * t := by
      by_cases hc : a < 2 * t
      · exact hc
      · have := ts_tot_low hs (fun i hi ho => by have := i2 i hi ho; omega)
        omega
    have hK2 := ha hlt
    by_cases hr : tsTot (fun i => ptk t r (x i) (o i) (-t)) n ≤ min (max S (-(tsIn o n * t))) (tsIn o n * t)
    · exact .inr (.inr ⟨by omega, hwide _ (by omega)⟩)
    · have hall := ts_tot_eq_all n (fun i hi => (hle i hi).1) (by omega)
      refine .inr (.inl ⟨by omega, fun i hi ho => ?_⟩)
      have b := hall i hi
      have c := i2 i hi ho
      have d := hs i hi
      unfold ptk at b
      simp only [ho] at b
      simp at b
      omega
  · have hxy : tsTot y n = tsTot x n := by omega
    refine .inr (.inr ⟨by omega, ?_⟩)
    have := h.even hs h1 h2 hxy i2
    exact fun i k hi hk oi ok => by
      have := this i k hi hk oi ok
      omega
theorem TsInv.start {t r S K : Int} {n : Nat} {x : Nat → Int} {o : Nat → Bool} (hs : TsSit t n x o) (hK : 0 ≤ K) (h0 : 0 ≤ t) : TsInv t r S K 0 n x o := by
  unfold TsInv
  have : tsTot x n < tsGoal t S o n ∨ tsGoal t S o n < tsTot x n ∨ tsTot x n = tsGoal t S o n := by omega
  rcases this with h | h | h
  · exact .inl ⟨h, fun i hi _ => by have := hs i hi; omega⟩
  · exact .inr (.inl ⟨h, fun i hi _ => by have := hs i hi; omega⟩)
  · exact .inr (.inr ⟨h, fun i k hi hk _ _ => by have := hs i hi; have := hs k hk; omega⟩)
theorem TsInv.done {t r S K a : Int} {n : Nat} {x : Nat → Int} {o : Nat → Bool} (h : TsInv t r S K a n x o) (hs : TsSit t n x o) (ha : 2 * t + K ≤ a) (hK : 0 ≤ K) : tsTot x n = tsGoal t S o n ∧ TsApart n x o 1 := by
  unfold TsInv at h
  unfold tsGoal at *
  have htt := ts_tot_top hs
  rcases h with ⟨h1, h2⟩ | ⟨h1, h2⟩ | ⟨h1, h2⟩
  · have := ts_tot_full hs (fun i hi ho => by have := h2 i hi ho; omega)
    omega
  · have := ts_tot_low hs (fun i hi ho => by have := h2 i hi ho; omega)
    omega
  · exact ⟨h1, fun i k hi hk oi ok => by have := h2 i k hi hk oi ok; omega⟩
theorem ts_frames_K {t r j : Int} (h1 : 1 ≤ r) (hj : j * r < 2 * t) : j * r + r ≤ (2 * t + r - 1) / r * r := by
  have h2 : j + 1 ≤ (2 * t + r - 1) / r := by
    rw [Int.le_ediv_iff_mul_le (by omega)]
    rw [Int.add_mul]
    omega
  have := Int.mul_le_mul_of_nonneg_right h2 (show 0 ≤ r by omega)
  rw [Int.add_mul] at this
  omega
theorem ts_frames_2t {t r : Int} (h1 : 1 ≤ r) : 2 * t ≤ (2 * t + r - 1) / r * r := by
  have := Int.emod_lt_of_pos (2 * t + r - 1) (show 0 < r by omega)
  have e := Int.emod_add_mul_ediv (2 * t + r - 1) r
  have e2 := Int.mul_comm r ((2 * t + r - 1) / r)
  omega
theorem ts_in_congr {o o' : Nat → Bool} : ∀ n, (∀ i, i < n → o i = o' i) → tsIn o n = tsIn o' n
  | 0, _ => rfl
  | k + 1, H => by
    have h1 := ts_in_congr k (fun i hi => H i (by omega))
    simp only [tsIn, h1, H k (by omega)]
theorem TsFr.congr {t r S : Int} {n : Nat} {x x' y : Nat → Int} {o o' : Nat → Bool} (h : TsFr t r S n x o y) (hx : ∀ i, i < n → x i = x' i) (ho : ∀ i, i < n → o i = o' i) : TsFr t r S n x' o' y := by
  obtain ⟨h1, L, h2, h3, h4, h5, h6⟩ := h
  have hc : ∀ l, tsTot (fun i => ptk t r (x i) (o i) l) n = tsTot (fun i => ptk t r (x' i) (o' i) l) n := fun l => ts_tot_congr n fun i hi => by
    show ptk t r (x i) (o i) l = ptk t r (x' i) (o' i) l
    rw [hx i hi, ho i hi]
  refine ⟨by rw [← hc, ← hc]; exact h1, L, h2, h3, fun i hi => by rw [← hx i hi, ← ho i hi]; exact h4 i hi, ?_, ?_⟩
  · rw [← hc]; exact h5
  · rw [← hc]; exact h6
theorem ts_walk {g : GD} {t r s c S : Int} {xs : Nat → Int} {o : Nat → Bool} {k : Int} (hx : ∀ i, i < g.n → g.fi i 0 = xs i) (ho : ∀ i, i < g.n → g.fb i 2 = o i) (hz : pspreadMay g t r s c = 0) (h : TsInv t r S ((2 * t + r - 1) / r * r) (k * r) g.n xs o) : TsInv t r S ((2 * t + r - 1) / r * r) ((k + 1) * r) g.n (pspr g t r S) o ∧ TsSit t g.n (pspr g t r S) o := by
  obtain ⟨⟨a1, a2, a3, a4, _⟩, b1, b2, b3⟩ := psm_all _ hz
  have hs : TsSit t g.n xs o := fun i hi => by
    obtain ⟨_, c1, c2, _, _, c3, _⟩ := pservo_0 (b3 i hi)
    rw [hx i hi] at c1 c2 c3
    rw [ho i hi] at c3
    exact ⟨c1, c2, c3⟩
  have hf := (ts_spr_fr g t r S (by omega)).congr hx ho
  refine ⟨?_, hf.sit hs a3 a4⟩
  have e : (k + 1) * r = k * r + r := by rw [Int.add_mul, Int.one_mul]
  rw [e]
  exact hf.inv hs a3 a4 (ts_frames_2t a3) (fun hlt => ts_frames_K a3 hlt) h
theorem ts_begin {g : GD} {t r s c S : Int} (hz : pspreadMay g t r s c = 0) : TsInv t r S ((2 * t + r - 1) / r * r) (0 * r) g.n (fun i => g.fi i 0) (fun i => g.fb i 2) := by
  obtain ⟨⟨a1, a2, a3, a4, _⟩, b1, b2, b3⟩ := psm_all _ hz
  rw [Int.zero_mul]
  refine TsInv.start (fun i hi => ?_) ?_ (by omega)
  · obtain ⟨_, c1, c2, _, _, c3, _⟩ := pservo_0 (b3 i hi)
    exact ⟨c1, c2, c3⟩
  · have := ts_frames_2t (t := t) a3
    omega
theorem ts_sum {g : GD} {t r S : Int} (h : 0 ≤ t) : tsTot (pspr g t r S) g.n = min (max S (ptotS g t r (-t) g.n)) (ptotS g t r t g.n) := by
  have := (ts_spr_fr g t r S h).sum
  rw [this, ts_ptotS_tot, ts_ptotS_tot]
theorem ts_end {t r S : Int} {n : Nat} {xs : Nat → Int} {o : Nat → Bool} {k : Int} (h1 : 1 ≤ r) (h2 : r ≤ t) (hs : TsSit t n xs o) (h : TsInv t r S ((2 * t + r - 1) / r * r) ((k + 1) * r) n xs o) (hk : k = 4 * ((2 * t + r - 1) / r) + 2) : tsTot xs n = tsGoal t S o n ∧ TsApart n xs o 1 := by
  have h3 := ts_frames_2t (t := t) h1
  refine h.done hs ?_ (by omega)
  have e : (k + 1) * r = 4 * ((2 * t + r - 1) / r * r) + 3 * r := by
    rw [hk]
    generalize (2 * t + r - 1) / r = q
    rw [Int.add_mul, Int.add_mul, Int.mul_assoc]
    omega
  omega
theorem ts_may {g : GD} {t r s c : Int} (h1 : AFine t r s c) (h2 : 1 ≤ g.n) (h3 : g.n ≤ 4) (h4 : ∀ i, i < g.n → pservo t r s c (g.fi i 0) (g.fi i 1) (g.fb i 2) = 0) : pspreadMay g t r s c = 0 := by
  have key : ∀ k, k ≤ g.n → psm g t r s c g.n k = 0 := by
    intro k
    induction k with
    | zero =>
      intro _
      show (if pactRule t r s c = 0 then (if 1 ≤ g.n ∧ g.n ≤ 4 then (0 : Int) else 2) else 1) = 0
      rw [if_pos (pactRule_of h1), if_pos ⟨h2, h3⟩]
    | succ k ih =>
      intro hk
      exact (if_pos (ih (by omega))).trans (h4 k (by omega))
  exact key _ (Nat.le_refl _)
end Go.Proofs.Ytdfpenjhpemokaa.Sx
/-
  fulmartop.shared: the contract.
-/
namespace Go.Proofs.Ytdfpenjhpemokaa.Sx
open Go.RowKit
theorem newList_cells {T : TypeId} {n0 : Nat} {w : World} {n : Nat} {f : Nat → Int} {v : Value} (h : NewList T n0 w ((List.range n).map f) v) : ∃ bl c, v = .slice (some ⟨bl, 0, none⟩) n c ∧ n0 ≤ bl ∧ bl < w.heap.size ∧ ∀ i, i < n → w.cell? ⟨bl, i, none⟩ = some (.int .i64 (f i)) := by
  obtain ⟨bl, c, arr, rfl, h1, h2, h3, h4, h5⟩ := h
  refine ⟨bl, c, by simp, h1, (Array.getElem?_eq_some_iff.1 h2).1, fun i hi => ?_⟩
  have := h5 i (f i) (by rw [List.getElem?_map, List.getElem?_range hi]; rfl)
  simp only [World.cell?, h2]
  simpa using this
def shL (g : GD) (t r x : Int) (k : Nat) : List (Int × Int × Bool) := (List.range k).map fun i => (pspr g t r x i, g.fi i 1, g.fb i 2)
theorem shL_s (g : GD) (t r x : Int) (k : Nat) : shL g t r x (k + 1) = shL g t r x k ++ [(pspr g t r x k, g.fi k 1, g.fb k 2)] := by
  unfold shL; rw [List.range_succ, List.map_append]; rfl
theorem ptk_near {t r f l p : Int} (a3 : 1 ≤ r) (a4 : r ≤ t) (b1 : -t ≤ f) (b2 : f ≤ t) (b : p = ptk t r f false l ∨ (p = ptk t r f false l + 1 ∧ ptk t r f false l < ptk t r f false (l + 1))) : max (f - r) (-t) ≤ p ∧ p ≤ min (f + r) t := by
  unfold ptk at b
  simp only [Bool.false_eq_true, if_false] at b
  rcases b with b | ⟨b, b'⟩
  · constructor <;> omega
  · constructor <;> omega
theorem ptk_nil {t r f l p : Int} (b : p = ptk t r f true l ∨ (p = ptk t r f true l + 1 ∧ ptk t r f true l < ptk t r f true (l + 1))) : p = 0 := by
  unfold ptk at b
  simp only [if_true] at b
  rcases b with b | ⟨b, b'⟩
  · omega
  · omega
theorem pclip_id {p lo hi : Int} (h1 : lo ≤ p) (h2 : p ≤ hi) : pclip p lo hi = p := by
  unfold pclip
  rw [if_neg (by omega), if_neg (by omega)]
theorem move_in {g : GD} {t r s c : Int} {k : Nat} (x : Int) (h : pservo t r s c (g.fi k 0) (g.fi k 1) (g.fb k 2) = 0) : pclip (pspr g t r x k) (preach t r (g.fi k 0) (g.fb k 2)).1 (preach t r (g.fi k 0) (g.fb k 2)).2 = pspr g t r x k := by
  have b := pleft_bd (g := g) (t := t) (r := r) (sum := x) rfl k
  obtain ⟨⟨a1, a2, a3, a4, a5, a6, a7, a8⟩, b1, b2, b3, b4, b5, b6⟩ := pservo_0 h
  cases ho : g.fb k 2
  · rw [ho] at b
    obtain ⟨h1, h2⟩ := ptk_near a3 a4 b1 b2 b
    exact pclip_id h1 h2
  · rw [ho] at b
    rw [ptk_nil b]
    rfl
set_option maxRecDepth 100000 in
set_option maxHeartbeats 2000000 in
theorem topShared (g : GD) (hk : g.ks = [true, true, false]) (t r s c x : Int) (w : World) (o : g.ok w) (hz : pspreadMay g t r s c = 0) (bx : B64 x) :
    Calls Try.prog 125 #[.agg #[.int .i64 t, .int .i64 r, .int .i64 s, .int .i64 c], .slice g.A g.n g.c, .int .i64 x] w fun e w' => (∃ v, e = .returned (.tuple #[v, .bool true]) ∧ w'.ownsRow w.heap.size 55 3 v g.n (svL (shL g t r x g.n))) ∧ Below w.heap.size w w' := by
  obtain ⟨_, b1, b2, b3⟩ := psm_all _ hz
  obtain ⟨bl, off, eA, hbl, hrow⟩ := gd_row3 o hk (by omega)
  have HW := Lib.hid hrow
  have HL : Hid (∀ k, k < g.n → k < g.n) := fun _ h => h
  have HM : Hid (∀ k, k < g.n → ∀ w, Calls Try.prog 53 #[.agg #[.int .i64 t, .int .i64 r, .int .i64 s, .int .i64 c], .agg #[.int .i64 (g.fi k 0), .int .i64 (g.fi k 1), .bool (g.fb k 2)], .int .i64 (pspr g t r x k)] w fun e w' => e = .returned (.tuple #[.agg #[.int .i64 (pspr g t r x k), .int .i64 (g.fi k 1), .bool (g.fb k 2)], .nilIface]) ∧ Below w.heap.size w w') := fun k h w => actMove_ok t r s c _ _ _ _ _ w (b3 k h) (move_in x (b3 k h))
  have HP : Hid (∀ w1 : World, Below w.heap.size w w1 → Calls Try.prog 90 #[.agg #[.int .i64 t, .int .i64 r, .int .i64 s, .int .i64 c], .slice g.A g.n g.c, .int .i64 x] w1 fun e w' => (∃ bb cc, e = .returned (.tuple #[.slice (some ⟨bb, 0, none⟩) g.n cc, .nilIface]) ∧ w1.heap.size ≤ bb ∧ bb < w'.heap.size ∧ Hid (∀ i, i < g.n → w'.cell? ⟨bb, i, none⟩ = some (.int .i64 (pspr g t r x i)))) ∧ Below w1.heap.size w1 w') := fun w1 hb => (shSpread_z g hk t r s c x w1 (gd_below' o hb) hz bx).mono fun e w' h => by
    obtain ⟨⟨v, h1, h2⟩, h3⟩ := h
    obtain ⟨bb, cc, h4, h5, h6, h7⟩ := newList_cells h2
    exact ⟨⟨bb, cc, by rw [h1, h4], h5, h6, h7⟩, h3⟩
  obtain ⟨i0, hif, hza, hzb, hzc⟩ := info_parts infoServo
  rw [eA] at HP ⊢
  clear o hz hrow b3 hk eA bx
  generalize g.n = n at *
  go_enter Try.func125, Try.ntmps125
  go_upto_region 2 with (first | (go_at_call 90; ((with_reducible refine (HP.out _ (by (repeat' (first | (with_reducible exact Below.refl _ _) | (with_reducible assumption) | (with_reducible refine Below.alloc ?_ ?_ _) | (with_reducible refine Below.drew ?_) | (with_reducible refine below_drewN ?_ _) | (with_reducible refine Below.setCell ?_ ?_ _) | (with_reducible refine Below.trans ?_ (Below.mono (by assumption) ?_)) | omega | (simp; omega) | (simp; done))))).mono ?_); rintro e w1 ⟨⟨tb, tc, rfl, htb, htl, hts⟩, hb1⟩; have hz1 := hb1.size; simp only [World.size_alloc] at hz1 htb)) | fail)
  clear HP
  refine wp_world (fun ω => Below w.heap.size w ω ∧ w.heap.size < ω.heap.size ∧ ω.cell? ⟨w.heap.size, 0, none⟩ = some (.int .i64 t) ∧ ω.cell? ⟨w.heap.size, 1, none⟩ = some (.int .i64 r) ∧ ω.cell? ⟨w.heap.size, 2, none⟩ = some (.int .i64 s) ∧ ω.cell? ⟨w.heap.size, 3, none⟩ = some (.int .i64 c) ∧ tb < ω.heap.size ∧ Hid (∀ i, i < n → ω.cell? ⟨tb, i, none⟩ = some (.int .i64 (pspr g t r x i)))) ⟨by (repeat' (first | (with_reducible exact Below.refl _ _) | (with_reducible assumption) | (with_reducible refine Below.alloc ?_ ?_ _) | (with_reducible refine Below.drew ?_) | (with_reducible refine below_drewN ?_ _) | (with_reducible refine Below.setCell ?_ ?_ _) | (with_reducible refine Below.trans ?_ (Below.mono (by assumption) ?_)) | omega | (simp; omega) | (simp; done))), by omega, (hb1.cell (p := ⟨w.heap.size, 0, none⟩) (by simp)).trans (World.cell?_alloc_mark w _ _ _ 0), (hb1.cell (p := ⟨w.heap.size, 1, none⟩) (by simp)).trans (World.cell?_alloc_mark w _ _ _ 1), (hb1.cell (p := ⟨w.heap.size, 2, none⟩) (by simp)).trans (World.cell?_alloc_mark w _ _ _ 2), (hb1.cell (p := ⟨w.heap.size, 3, none⟩) (by simp)).trans (World.cell?_alloc_mark w _ _ _ 3), htl, hts⟩ ?_
  rintro w2 ⟨hB2, hs2, r0, r1, r2, r3, htl2, HT⟩
  clear hb1 hz1 htl hts
  go_wp2_with fail
  go_loopw [10, 11] (fun v i wr => ∃ k : Nat, k ≤ n ∧ i = .int .i64 k ∧ wr.ownsRow w2.heap.size 55 3 v k (svL (shL g t r x k)) ∧ Below w2.heap.size w2 wr) (fun _ i _ => n - (intOf i).toNat)
  case atStart => exact ⟨0, Nat.zero_le _, rfl, World.ownsRow_nil _ _ _ _, Below.refl _ _⟩
  case round =>
    obtain ⟨k, hkn, rfl, hown, hbw⟩ := hrel
    have hsz := hbw.size
    by_cases hlt : k < n
    · have HC := HW.out k hlt
      have hbl2 : bl < w2.heap.size := by omega
      have c0 : wr.cell? ⟨bl, off + k * 3, none⟩ = _ := (hbw.cell (p := ⟨bl, _, none⟩) hbl2).trans ((hB2.cell (p := ⟨bl, _, none⟩) hbl).trans HC.1)
      have c1 : wr.cell? ⟨bl, off + k * 3 + 1, none⟩ = _ := (hbw.cell (p := ⟨bl, _, none⟩) hbl2).trans ((hB2.cell (p := ⟨bl, _, none⟩) hbl).trans HC.2.1)
      have c2 : wr.cell? ⟨bl, off + k * 3 + 2, none⟩ = _ := (hbw.cell (p := ⟨bl, _, none⟩) hbl2).trans ((hB2.cell (p := ⟨bl, _, none⟩) hbl).trans HC.2.2)
      have ct : wr.cell? ⟨tb, k, none⟩ = _ := (hbw.cell (p := ⟨tb, _, none⟩) htl2).trans (HT.out k hlt)
      have q0 := (hbw.cell (p := ⟨w.heap.size, 0, none⟩) hs2).trans r0
      have q1 := (hbw.cell (p := ⟨w.heap.size, 1, none⟩) hs2).trans r1
      have q2 := (hbw.cell (p := ⟨w.heap.size, 2, none⟩) hs2).trans r2
      have q3 := (hbw.cell (p := ⟨w.heap.size, 3, none⟩) hs2).trans r3
      have hM := Lib.hid (HM.out k (HL.out k hlt))
      have hS : Hid (shL g t r x (k + 1) = shL g t r x k ++ [(pspr g t r x k, g.fi k 1, g.fb k 2)]) := shL_s g t r x k
      clear HC r0 r1 r2 r3
      generalize pspr g t r x k = p at *
      generalize g.fi k 0 = f0 at *
      generalize g.fi k 1 = f1 at *
      generalize g.fb k 2 = fo at *
      have l1 : bl < wr.heap.size := by omega
      have l2 : tb < wr.heap.size := by omega
      have l3 : w.heap.size < wr.heap.size := by omega
      go_upto_region 8 with fail
      go_cut [12, 13] (fun s12 s13 ω => ∃ b : Nat, s12 = .pointer (some ⟨b, 0, none⟩) ∧ s13 = .nilIface ∧ wr.heap.size ≤ b ∧ ω.rowIs b 55 3 (axv [.int .i64 p, .int .i64 f1, .bool fo]) ∧ Below wr.heap.size wr ω)
      case first =>
        rename_i J' K' hJ' hK'
        go_region_held3 (fun ω => ω.cell? ⟨w.heap.size, 0, none⟩ = some (.int .i64 t) ∧ ω.cell? ⟨w.heap.size, 1, none⟩ = some (.int .i64 r) ∧ ω.cell? ⟨w.heap.size, 2, none⟩ = some (.int .i64 s) ∧ ω.cell? ⟨w.heap.size, 3, none⟩ = some (.int .i64 c) ∧ ω.cell? ⟨bl, off + k * 3, none⟩ = some (.int .i64 f0) ∧ ω.cell? ⟨bl, off + k * 3 + 1, none⟩ = some (.int .i64 f1) ∧ ω.cell? ⟨bl, off + k * 3 + 2, none⟩ = some (.bool fo) ∧ ω.cell? ⟨tb, k, none⟩ = some (.int .i64 p)) (refine ⟨?_, ?_, ?_, ?_, ?_, ?_, ?_, ?_⟩ <;> (repeat' (first | (with_reducible assumption) | (with_reducible refine cell_alloc_keep ?_) | (with_reducible refine cell_drew_keep ?_) | (with_reducible refine cell_drewN_keep ?_) | (with_reducible refine cell_below (by assumption) ?_ ?_) | ((with_reducible refine cell_set_blk ?_ ?_) <;> (first | (with_reducible assumption) | omega | skip)) | omega | (simp; done) | (simp; omega)))) (first | (go_at_call 53; ((with_reducible refine (hM.out _).mono ?_); rintro e w5 ⟨rfl, hb5⟩; have hz5 := hb5.size; (try (have hR := (World.rowIs.drew (row_new wr [.int .i64 0, .int .i64 0, .bool false] _)).of_block (hb5.block wr.heap.size (by simp)); have z0 : w5.cell? ⟨_, 0, none⟩ = some (.int .i64 0) := hR.cell (i := 0) (by decide); have z1 : w5.cell? ⟨_, 1, none⟩ = some (.int .i64 0) := hR.cell (i := 1) (by decide); have z2 : w5.cell? ⟨_, 2, none⟩ = some (.bool false) := hR.cell (i := 2) (by decide); have zf := hR.frozen)); (repeat (first | simp only [World.size_alloc] at hz5 | simp only [World.size_drew] at hz5 | simp only [World.size_setCell] at hz5)))) | fail)
        all_goals (refine hK' _ _ (Met.intro (hJ' _ _ ?_)); (repeat apply Exists.intro); refine ⟨?_, rfl⟩)
        all_goals exact ⟨_, rfl, rfl, by omega, by (repeat' (first | (exact row3 hR _ _ _) | (with_reducible assumption) | (with_reducible refine World.rowIs.drew ?_) | (with_reducible refine row_put15 ?_ _ _ rfl (by decide)) | (with_reducible exact row_new _ [.int .i64 0, .int .i64 0, .bool false] _) | (exact row_new _ [.int .i64 p, .int .i64 f1, .bool fo] _) | (with_reducible refine World.rowIs.alloc ?_ _))), by (repeat' (first | (with_reducible exact Below.refl _ _) | (with_reducible assumption) | (with_reducible refine Below.alloc ?_ ?_ _) | (with_reducible refine Below.drew ?_) | (with_reducible refine below_drewN ?_ _) | (with_reducible refine Below.setCell ?_ ?_ _) | (with_reducible refine Below.trans ?_ (Below.mono (by assumption) ?_)) | omega | (simp; omega) | (simp; done)))⟩
      obtain ⟨b, rfl, rfl, hb, hR, hB⟩ := hcut
      obtain ⟨w5, rfl⟩ : ∃ x : World, x = wc := ⟨_, rfl⟩
      have y0 : w5.cell? ⟨b, 0, none⟩ = some (.int .i64 p) := hR.cell (i := 0) (by decide)
      have y1 : w5.cell? ⟨b, 1, none⟩ = some (.int .i64 f1) := hR.cell (i := 1) (by decide)
      have y2 : w5.cell? ⟨b, 2, none⟩ = some (.bool fo) := hR.cell (i := 2) (by decide)
      have yt : w5.cell? ⟨tb, k, none⟩ = some (.int .i64 p) := (hB.cell (p := ⟨tb, k, none⟩) l2).trans ct
      have hl5 := hR.lt
      have hown5 := ownsRow_below hown hB
      have hBw : Below w2.heap.size w2 w5 := hbw.trans (hB.mono hsz)
      have hz5 := hB.size
      clear hR c0 c1 c2 ct q0 q1 q2 q3 hM
      go_upto_region 9 with fail
      go_region
      go_wp2_with (first | (at_builtin; go_loud (refine wpList_append_own _ rfl (.tmp 60) (.tmp 62) 132 rfl (w2.heap.size) 55 i0 (.agg #[.int .i64 0, .int .i64 0, .bool false]) 3 24 Try.underlying132 hif hza hzb hzc rfl (by decide) u10 k (svL (shL g t r x k)) rfl (by (repeat' (first | (with_reducible assumption) | (with_reducible refine World.ownsRow.alloc ?_ _) | (with_reducible refine World.ownsRow.drew ?_)))) ⟨_, 0, none⟩ 1 1 [.int .i64 p, .int .i64 f1, .bool fo] rfl rfl ?c1 ?c2 ?c3 ?c4 ?c5 ?_)) | fail)
      case c1 =>
        intro j u hj
        match j, hj with
        | 0, hj => simp at hj; subst hj; simp [Addr.add]
        | 1, hj => simp at hj; subst hj; simp [Addr.add]
        | 2, hj => simp at hj; subst hj; simp [Addr.add]
      case c2 => intro u hu; simp at hu; rcases hu with rfl | rfl | rfl <;> rfl
      case c3 => unfold maxLen; omega
      case c4 => omega
      case c5 => simp; omega
      intro v' w9 hown9 hgrow9 _
      rw [← svL_snoc _ (p, f1, fo), ← hS.out] at hown9
      have hB9 : Below w2.heap.size w2 w9 := Below.grown (by (repeat' (first | (with_reducible exact Below.refl _ _) | (with_reducible assumption) | (with_reducible refine Below.alloc ?_ ?_ _) | (with_reducible refine Below.drew ?_) | (with_reducible refine below_drewN ?_ _) | (with_reducible refine Below.setCell ?_ ?_ _) | (with_reducible refine Below.trans ?_ (Below.mono (by assumption) ?_)) | omega | (simp; omega) | (simp; done)))) hgrow9 (by simp; omega) (fun q hq => (hown.lt q hq).1)
      clear hgrow9 hown hown5 y0 y1 y2 yt
      go_wp2
      go_roundw
      case rel => exact ⟨k + 1, by omega, by go_num, hown9, hB9⟩
      case measure => simp [intOf]; omega
    · have hkn : k = n := by omega
      subst hkn
      go_wp2_with fail
      refine bodyPost_ret (v := .tuple #[u10, .bool true]) ?_ rfl ⟨⟨_, rfl, ownsRow_low hown (by omega)⟩, by (repeat' (first | (with_reducible exact Below.refl _ _) | (with_reducible assumption) | (with_reducible refine Below.alloc ?_ ?_ _) | (with_reducible refine Below.drew ?_) | (with_reducible refine below_drewN ?_ _) | (with_reducible refine Below.setCell ?_ ?_ _) | (with_reducible refine Below.trans ?_ (Below.mono (by assumption) ?_)) | omega | (simp; omega) | (simp; done)))⟩
      simp [results, Try.results125, go_sem]
end Go.Proofs.Ytdfpenjhpemokaa.Sx
/-
  R.SumOf: the contract.
-/
namespace Go.Proofs.Ytdfpenjhpemokaa.Sx
open Go.RowKit
theorem ts_tot_bd {f : Nat → Int} {n : Nat} (h : ∀ i, i < n → -1000 ≤ f i ∧ f i ≤ 1000) : ∀ k : Nat, k ≤ n → -1000 * (k : Int) ≤ tsTot f k ∧ tsTot f k ≤ 1000 * (k : Int)
  | 0, _ => by simp [tsTot]
  | k + 1, hk => by
    have h1 := ts_tot_bd h k (by omega)
    have h2 := h k (by omega)
    simp only [tsTot]
    omega
set_option maxRecDepth 100000 in
set_option maxHeartbeats 1000000 in
theorem refSumOf (g : GD) (hk : g.ks = [true, true, false]) (h0 : 0 < g.n) (h4 : g.n ≤ 4) (hb : ∀ i, i < g.n → -1000 ≤ g.fi i 0 ∧ g.fi i 0 ≤ 1000) (w : World) (o : g.ok w) :
    Calls Try.prog 93 #[.slice g.A g.n g.c] w fun e w' => e = .returned (.int .i64 (tsTot (fun i => g.fi i 0) g.n)) ∧ Below w.heap.size w w' := by
  obtain ⟨bl, off, eA, hbl, hrow⟩ := gd_row3 o hk h0
  have HW := Lib.hid hrow
  have HB := Lib.hid hb
  have HT := Lib.hid (ts_tot_bd (f := fun i => g.fi i 0) hb)
  have HS : Hid (∀ k, tsTot (fun i => g.fi i 0) (k + 1) = tsTot (fun i => g.fi i 0) k + g.fi k 0) := fun _ => rfl
  rw [eA]
  clear o hrow hb hk eA
  generalize g.n = n at *
  generalize tsTot (fun i => g.fi i 0) = F at *
  have hF0 := HT.out 0 (Nat.zero_le _)
  have hF00 : F 0 = 0 := by omega
  go_enter Try.func93, Try.ntmps93
  go_wp2_with fail
  go_loopw [3, 4] (fun v i wr => ∃ k : Nat, k ≤ n ∧ i = .int .i64 k ∧ v = .int .i64 (F k) ∧ Below w.heap.size w wr) (fun _ i _ => n - (intOf i).toNat)
  case atStart => exact ⟨0, Nat.zero_le _, rfl, by rw [hF00], Below.refl _ _⟩
  case round =>
    obtain ⟨k, hkn, rfl, rfl, hbw⟩ := hrel
    have hsz := hbw.size
    by_cases hlt : k < n
    · have c0 := (hbw.cell (p := ⟨bl, _, none⟩) hbl).trans (HW.out k hlt).1
      have hS := Lib.hid (HS.out k)
      have t1 := HT.out k (by omega)
      have t2 := HB.out k hlt
      generalize F k = T at *
      generalize g.fi k 0 = f0 at *
      have hwr : IntKind.wrap .i64 (T + f0) = T + f0 := IntWalk.i64_in _ ⟨by omega, by omega⟩
      go_wp2_with fail
      go_roundw
      case rel => exact ⟨k + 1, by omega, by go_num, by rw [hS.out], hbw⟩
      case measure => simp [intOf]; omega
    · have hkn : k = n := by omega
      subst hkn
      go_wp2_with fail
      go_ret
      exact ⟨rfl, hbw⟩
end Go.Proofs.Ytdfpenjhpemokaa.Sx
/-
  TopShare: what stands between frames; the contracts of the frame and of the sum.
-/
namespace Go.Proofs.Ytdfpenjhpemokaa.Sx
open Go.RowKit
theorem axes1 (x y : Ax) (w : World) : (Instr.index 84 (.agg (x.cells ++ y.cells).toArray) (.int .i64 1)).run Try.prog w = .ok (.agg y.cells.toArray) w := by
  obtain ⟨x0, x1, x2, x3, x4, x5, x6, x7, x8, x9, xa, xb, xc, xd, xe⟩ := x
  obtain ⟨y0, y1, y2, y3, y4, y5, y6, y7, y8, y9, ya, yb, yc, yd, ye⟩ := y
  simp [Instr.index, run_underlying Try.underlying84, Ax.cells, asIntOf, go_sem]
theorem svGD_may (v : Value) {m : Nat} {L : List (Int × Int × Bool)} {t r s c : Int} (hL : L.length = m) (hf : ∀ x ∈ L, SvFine t c x) (hA : AFine t r s c) (h1 : 1 ≤ m) (h4 : m ≤ 4) : pspreadMay (svGD v m L) t r s c = 0 := by
  refine ts_may hA h1 h4 fun i hi => ?_
  have hi' : i < L.length := by rw [hL]; exact hi
  have hx := hf L[i] (List.getElem_mem hi')
  have e : L[i]?.getD (0, 0, false) = L[i] := by rw [List.getElem?_eq_getElem hi']; rfl
  refine pservo_of hA ?_
  show SFine t c (L[i]?.getD (0, 0, false)).1 (L[i]?.getD (0, 0, false)).2.1 (L[i]?.getD (0, 0, false)).2.2
  rw [e]
  obtain ⟨c1, c2, c3, c4, c5, c6⟩ := hx
  exact ⟨c1, c2, c3, c4, c5, fun h => by have := c6 h; omega⟩
theorem sh_next {g : GD} {t r s c S : Int} {w : World} {base : Nat} {v : Value} (hz : pspreadMay g t r s c = 0) (h : w.ownsRow base 55 3 v g.n (svL (shL g t r S g.n))) :
    ∃ g' : GD, v = .slice g'.A g'.n g'.c ∧ g'.ok w ∧ g'.ks = [true, true, false] ∧ g'.n = g.n ∧ (∀ i, i < g.n → g'.fi i 0 = pspr g t r S i) ∧ (∀ i, i < g.n → g'.fb i 2 = g.fb i 2) ∧ pspreadMay g' t r s c = 0 := by
  obtain ⟨hA, b1, b2, b3⟩ := psm_all _ hz
  have hA' := hA
  obtain ⟨a1, a2, a3, a4, a5, a6, a7, a8⟩ := hA'
  have hl : (shL g t r S g.n).length = g.n := by simp [shL]
  have hsit := (ts_spr_fr g t r S (by omega)).sit (fun i hi => by
    obtain ⟨_, c1, c2, _, _, c3, _⟩ := pservo_0 (b3 i hi)
    exact ⟨c1, c2, c3⟩) a3 a4
  have hfine : ∀ x ∈ shL g t r S g.n, SvFine t c x := fun x hx => by
    unfold shL at hx
    obtain ⟨i, hi, rfl⟩ := List.mem_map.1 hx
    have hi := List.mem_range.1 hi
    obtain ⟨c1, c2, c3⟩ := hsit i hi
    obtain ⟨_, _, _, d3, d4, _, d6⟩ := pservo_0 (b3 i hi)
    exact ⟨c1, c2, d3, d4, c3, fun h => by have := d6 h; show g.fi i 1 < c; omega⟩
  obtain ⟨h1, h2⟩ := svGD_ok h hl b2 (fun x hx => (by have := hfine x hx; unfold SvFine at this; unfold B64; omega))
  have hat : ∀ i, i < g.n → (shL g t r S g.n)[i]?.getD (0, 0, false) = (pspr g t r S i, g.fi i 1, g.fb i 2) := fun i hi => by
    unfold shL
    rw [List.getElem?_map, List.getElem?_range hi]
    rfl
  refine ⟨svGD v g.n (shL g t r S g.n), h1, h2, rfl, rfl, fun i hi => ?_, fun i hi => ?_, svGD_may v hl hfine hA b1 b2⟩
  · show ((shL g t r S g.n)[i]?.getD (0, 0, false)).1 = _
    rw [hat i hi]
  · show ((shL g t r S g.n)[i]?.getD (0, 0, false)).2.2 = _
    rw [hat i hi]
structure TsAt (t r s c S : Int) (n : Nat) (o : Nat → Bool) (k : Int) (g : GD) (w : World) : Prop where
  ks : g.ks = [true, true, false]
  n : g.n = n
  ok : g.ok w
  may : pspreadMay g t r s c = 0
  inv : ∃ xs : Nat → Int, (∀ i, i < g.n → g.fi i 0 = xs i) ∧ (∀ i, i < g.n → g.fb i 2 = o i) ∧ TsInv t r S ((2 * t + r - 1) / r * r) (k * r) g.n xs o
theorem TsAt.start {t r s c S : Int} {g : GD} {w : World} (hk : g.ks = [true, true, false]) (ho : g.ok w) (hz : pspreadMay g t r s c = 0) : TsAt t r s c S g.n (fun i => g.fb i 2) 0 g w :=
  ⟨hk, rfl, ho, hz, fun i => g.fi i 0, fun _ _ => rfl, fun _ _ => rfl, ts_begin hz⟩
theorem TsAt.below {t r s c S : Int} {n : Nat} {o : Nat → Bool} {k : Int} {g : GD} {w w' : World} (h : TsAt t r s c S n o k g w) (hb : Below w.heap.size w w') : TsAt t r s c S n o k g w' :=
  ⟨h.ks, h.n, gd_below' h.ok hb, h.may, h.inv⟩
theorem TsAt.bd {t r s c S : Int} {n : Nat} {o : Nat → Bool} {k : Int} {g : GD} {w : World} (h : TsAt t r s c S n o k g w) : 1 ≤ n ∧ n ≤ 4 ∧ (∀ i, i < g.n → -1000 ≤ g.fi i 0 ∧ g.fi i 0 ≤ 1000) := by
  obtain ⟨hA, b1, b2, b3⟩ := psm_all _ h.may
  obtain ⟨a1, a2, _⟩ := hA
  have := h.n
  refine ⟨by omega, by omega, fun i hi => ?_⟩
  obtain ⟨_, c1, c2, _⟩ := pservo_0 (b3 i hi)
  omega
theorem topSharedS (t r s c S : Int) (n : Nat) (o : Nat → Bool) (k : Int) (g : GD) (w : World) (h : TsAt t r s c S n o k g w) (h0 : 0 ≤ k) (bS : B64 S) :
    Calls Try.prog 125 #[.agg #[.int .i64 t, .int .i64 r, .int .i64 s, .int .i64 c], .slice g.A g.n g.c, .int .i64 S] w fun e w' => (∃ g' : GD, e = .returned (.tuple #[.slice g'.A g'.n g'.c, .bool true]) ∧ TsAt t r s c S n o (k + 1) g' w' ∧ tsTot (fun i => g'.fi i 0) g'.n = pclip S (ptotS g t r (-t) g.n) (ptotS g t r t g.n)) ∧ Below w.heap.size w w' := by
  obtain ⟨hA, b1, b2, b3⟩ := psm_all _ h.may
  obtain ⟨a1, a2, a3, a4, a5, a6, a7, a8⟩ := hA
  refine (topShared g h.ks t r s c S w h.ok h.may bS).mono ?_
  rintro e w' ⟨⟨v, rfl, hown⟩, hb⟩
  obtain ⟨g', rfl, e1, e2, e3, e4, e5, e6⟩ := sh_next h.may hown
  refine ⟨⟨g', rfl, ⟨e2, e3.trans h.n, e1, e6, ?_⟩, ?_⟩, hb⟩
  · obtain ⟨xs, f1, f2, f3⟩ := h.inv
    refine ⟨pspr g t r S, fun i hi => e4 i (by omega), fun i hi => (e5 i (by omega)).trans (f2 i (by omega)), ?_⟩
    rw [e3]
    exact (ts_walk f1 f2 h.may f3).1
  · rw [← pclip_min _ _ _ (ptotS_mono g t r (by omega) g.n), ← ts_sum (by omega), e3]
    exact ts_tot_congr _ fun i hi => e4 i hi
theorem TsAt.done {t r s c S : Int} {n : Nat} {o : Nat → Bool} {k : Int} {g : GD} {w : World} (h : TsAt t r s c S n o (k + 1) g w) (hk : k = 4 * ((2 * t + r - 1) / r) + 2) : tsTot (fun i => g.fi i 0) g.n = tsGoal t S (fun i => g.fb i 2) g.n ∧ TsApart g.n (fun i => g.fi i 0) (fun i => g.fb i 2) 1 := by
  obtain ⟨hA, b1, b2, b3⟩ := psm_all _ h.may
  obtain ⟨a1, a2, a3, a4, a5, a6, a7, a8⟩ := hA
  obtain ⟨xs, f1, f2, f3⟩ := h.inv
  have hs : TsSit t g.n xs o := fun i hi => by
    obtain ⟨_, c1, c2, _, _, c3, _⟩ := pservo_0 (b3 i hi)
    rw [f1 i hi] at c1 c2 c3
    rw [f2 i hi] at c3
    exact ⟨c1, c2, c3⟩
  obtain ⟨d1, d2⟩ := ts_end a3 a4 hs f3 hk
  constructor
  · rw [ts_tot_congr g.n f1, d1]
    unfold tsGoal
    rw [ts_in_congr g.n f2]
  · intro i j hi hj oi oj
    show g.fi i 0 - g.fi j 0 ≤ 1
    rw [f1 i hi, f1 j hj]
    exact d2 i j hi hj ((f2 i hi).symm.trans oi) ((f2 j hj).symm.trans oj)
def TsMm (x : Nat → Int) (o : Nat → Bool) (k : Nat) (l h : Int) : Prop :=
  (tsIn o k = 0 ∧ l = 2147483647 ∧ h = -2147483647) ∨ (0 < tsIn o k ∧ ∃ i j, i < k ∧ j < k ∧ o i = false ∧ o j = false ∧ l = x i ∧ h = x j)
theorem TsMm.step {x : Nat → Int} {o : Nat → Bool} {k : Nat} {l h : Int} (hm : TsMm x o k l h) (ho : o k = false) (hb : -1000 ≤ x k ∧ x k ≤ 1000) : TsMm x o (k + 1) (min l (x k)) (max h (x k)) := by
  have e : tsIn o (k + 1) = tsIn o k + 1 := by simp [tsIn, ho]
  rcases hm with ⟨h1, rfl, rfl⟩ | ⟨h1, i, j, hi, hj, oi, oj, rfl, rfl⟩
  · exact .inr ⟨by omega, k, k, by omega, by omega, ho, ho, by omega, by omega⟩
  · refine .inr ⟨by omega, ?_⟩
    by_cases c1 : x i ≤ x k
    · by_cases c2 : x k ≤ x j
      · exact ⟨i, j, by omega, by omega, oi, oj, by omega, by omega⟩
      · exact ⟨i, k, by omega, by omega, oi, ho, by omega, by omega⟩
    · by_cases c2 : x k ≤ x j
      · exact ⟨k, j, by omega, by omega, ho, oj, by omega, by omega⟩
      · exact ⟨k, k, by omega, by omega, ho, ho, by omega, by omega⟩
theorem TsMm.skip {x : Nat → Int} {o : Nat → Bool} {k : Nat} {l h : Int} (hm : TsMm x o k l h) (ho : o k = true) : TsMm x o (k + 1) l h := by
  have e : tsIn o (k + 1) = tsIn o k := by simp [tsIn, ho]
  rcases hm with ⟨h1, h2, h3⟩ | ⟨h1, i, j, hi, hj, oi, oj, h2, h3⟩
  · exact .inl ⟨by omega, h2, h3⟩
  · exact .inr ⟨by omega, i, j, by omega, by omega, oi, oj, h2, h3⟩
theorem TsMm.bd {x : Nat → Int} {o : Nat → Bool} {n k : Nat} {l h : Int} (hm : TsMm x o k l h) (hk : k ≤ n) (hb : ∀ i, i < n → -1000 ≤ x i ∧ x i ≤ 1000) : -1000 ≤ l ∧ l ≤ 2147483647 ∧ -2147483647 ≤ h ∧ h ≤ 1000 := by
  rcases hm with ⟨h1, rfl, rfl⟩ | ⟨h1, i, j, hi, hj, oi, oj, rfl, rfl⟩
  · omega
  · have := hb i (by omega)
    have := hb j (by omega)
    omega
theorem sumOfS {t r s c S : Int} {n : Nat} {o : Nat → Bool} {k : Int} {g : GD} {w w1 : World} (h : TsAt t r s c S n o k g w) {T : Int} (hT : tsTot (fun i => g.fi i 0) g.n = T) (hb : Below w.heap.size w w1) :
    Calls Try.prog 93 #[.slice g.A g.n g.c] w1 fun e w' => e = .returned (.int .i64 T) ∧ Below w1.heap.size w1 w' := by
  obtain ⟨b1, b2, b3⟩ := h.bd
  have := h.n
  rw [← hT]
  exact refSumOf g h.ks (by omega) (by omega) b3 w1 (gd_below' h.ok hb)
theorem ts_q {t r : Int} (t1 : 1 ≤ t) (t2 : t ≤ 1000) (r1 : 1 ≤ r) (r2 : r ≤ t) : ∃ q, (2 * t + r - 1).tdiv r = q ∧ (2 * t + r - 1) / r = q ∧ 0 ≤ q ∧ q ≤ 3000 := by
  refine ⟨(2 * t + r - 1) / r, Int.tdiv_eq_ediv_of_nonneg (by omega), rfl, Int.ediv_nonneg (by omega) (by omega), ?_⟩
  have := Int.ediv_le_self r (show 0 ≤ 2 * t + r - 1 by omega)
  omega
end Go.Proofs.Ytdfpenjhpemokaa.Sx
