/-
  The laws LineOver and TopLine: what they lean on.
-/
import Derived.Test.YtdfpenjhpemokaaOver3
import Derived.Test.YtdfpenjhpemokaaLined
set_option linter.unusedVariables false
set_option linter.unusedSimpArgs false
namespace Go.Proofs.Ytdfpenjhpemokaa.Sx
open Go.RowKit
theorem pup2_mono {m m' d : Int} (hd : 0 < d) (h : m ≤ m') : pup2 m d ≤ pup2 m' d := by
  unfold pup2
  exact Int.ediv_le_ediv (by omega) (by omega)
theorem pval_mono {f g : Nat → Int} {i : Nat} (hf : f i < f (i + 1)) (hg : g i ≤ g (i + 1)) {x y : Int} (h : x ≤ y) : pval f g i x ≤ pval f g i y := by
  unfold pval
  have := pup2_mono (d := f (i + 1) - f i) (by omega) (Int.mul_le_mul_of_nonneg_right (c := g (i + 1) - g i) (show x - f i ≤ y - f i by omega) (by omega))
  omega
theorem pval_in {f g : Nat → Int} {i : Nat} (hf : f i < f (i + 1)) (hg : g i ≤ g (i + 1)) {x : Int} (h1 : f i ≤ x) (h2 : x ≤ f (i + 1)) : g i ≤ pval f g i x ∧ pval f g i x ≤ g (i + 1) := by
  have a := pval_mono hf hg h1
  have b := pval_mono hf hg h2
  rw [pval_lo f g i hf] at a
  rw [pval_hi f g i hf] at b
  exact ⟨a, b⟩
theorem nofall_le {g : Nat → Int} {n : Nat} (h : ∀ k, k + 1 < n → g k ≤ g (k + 1)) : ∀ i j, i ≤ j → j < n → g i ≤ g j := by
  intro i j hij
  induction j with
  | zero => intro _; have : i = 0 := by omega
            subst this; exact Int.le_refl _
  | succ j ih =>
    intro hj
    by_cases e : i = j + 1
    · subst e; exact Int.le_refl _
    · have h1 := ih (by omega) (by omega)
      have h2 := h j (by omega)
      omega
/-- A line that never falls gives no less for more. -/
theorem plook_mono {f g : Nat → Int} {n : Nat} (hn : 2 ≤ n) (hr : RiseAll f n) (hg : ∀ k, k + 1 < n → g k ≤ g (k + 1)) {x y : Int} (h : x ≤ y) : plook f g n x ≤ plook f g n y := by
  have h0 := rise_le hr 0 (n - 1) (by omega) (by omega)
  have hX : f 0 ≤ pclip x (f 0) (f (n - 1)) ∧ pclip x (f 0) (f (n - 1)) ≤ f (n - 1) := by unfold pclip; omega
  have hY : f 0 ≤ pclip y (f 0) (f (n - 1)) ∧ pclip y (f 0) (f (n - 1)) ≤ f (n - 1) := by unfold pclip; omega
  have hXY : pclip x (f 0) (f (n - 1)) ≤ pclip y (f 0) (f (n - 1)) := by unfold pclip; omega
  obtain ⟨i, hi⟩ := piece_is f n (pclip x (f 0) (f (n - 1))) hn
  obtain ⟨j, hj⟩ := piece_is f n (pclip y (f 0) (f (n - 1))) hn
  rw [plook_at hi, plook_at hj]
  generalize pclip x (f 0) (f (n - 1)) = X at *
  generalize pclip y (f 0) (f (n - 1)) = Y at *
  have inp : ∀ {z : Int} {k : Nat}, IsPiece f n z k → f 0 ≤ z → z ≤ f (n - 1) → f k ≤ z ∧ z ≤ f (k + 1) := by
    intro z k hk z0 z1
    obtain ⟨k1, k2, k3⟩ := hk
    constructor
    · by_cases hk0 : k = 0
      · subst hk0; exact z0
      · have := k2 (k - 1) (by omega)
        rwa [show k - 1 + 1 = k by omega] at this
    · by_cases hl : k + 2 < n
      · have := k3 hl; omega
      · have : k + 1 = n - 1 := by omega
        rw [this]; exact z1
  have xi := inp hi hX.1 hX.2
  have yj := inp hj hY.1 hY.2
  have fi := hr i (by have := hi.1; omega)
  have fj := hr j (by have := hj.1; omega)
  have gi := hg i (by have := hi.1; omega)
  have gj := hg j (by have := hj.1; omega)
  rcases Nat.lt_trichotomy i j with h | h | h
  · have a := (pval_in fi gi xi.1 xi.2).2
    have b := (pval_in fj gj yj.1 yj.2).1
    have c := nofall_le hg (i + 1) j (by omega) (by have := hj.1; omega)
    omega
  · subst h
    exact pval_mono fi gi hXY
  · exfalso
    have a := hi.2.1 j h
    have b := hj.2.2 (by have := hi.1; omega)
    omega
theorem povr_ends {L : Int → Int} {f g : Nat → Int} {lo hi : Int} : ∀ k, (povr L f g lo hi k).1 ≤ L lo ∧ (povr L f g lo hi k).1 ≤ L hi ∧ L lo ≤ (povr L f g lo hi k).2 ∧ L hi ≤ (povr L f g lo hi k).2 := by
  intro k
  induction k with
  | zero => simp only [povr]; omega
  | succ k ih =>
    simp only [povr]
    split
    · simp only; omega
    · exact ih
/-- Beyond the bounds of fixed numbers a line is as it is at the ends. -/
theorem plook_of {f g : Nat → Int} {n : Nat} (hn : 2 ≤ n) (hw : WorthAll f n) (x : Int) : plook f g n (min (max x (-2147483647)) 2147483647) = plook f g n x := by
  have a := hw 0 (by omega)
  have b := hw (n - 1) (by omega)
  have e : pclip (min (max x (-2147483647)) 2147483647) (f 0) (f (n - 1)) = pclip x (f 0) (f (n - 1)) := by unfold pclip; omega
  unfold plook
  rw [e]
def biZ (mk : R → SV) (args : List SV) : Option (List E × SV) := match args with
  | [.agg [.osl k [.int .i64 _ _] len, .osl m [.int .i64 _ _] len']] => some (geC len 1000 ++ geC len' 1000 ++ [.bin .eq (.ap 62 (.cons (.c k) (.cons (.c m) .nil))) (.c 0)], mk ⟨.c 0, 0, 0⟩)
  | _ => none
def biN (lim lim' : Int) (args : List SV) : Option (List E × SV) := match args with
  | [.agg [.osl k [.int .i64 _ _] len, .osl m [.int .i64 _ _] len']] => some (geC len lim ++ geC len' lim' ++ [.bin .le (.c 1) (.ap 62 (.cons (.c k) (.cons (.c m) .nil)))], .int .i64 ⟨.ap 62 (.cons (.c k) (.cons (.c m) .nil)), 1, 5⟩)
  | _ => none
def risesB (args : List SV) : Option (List E × SV) := match args with
  | [.agg [.osl k [.int .i64 _ _] len, .osl m [.int .i64 _ _] len']] => some (geC len 1000 ++ geC len' 1000, .bool (.ap 65 (.cons (.c k) (.cons (.c m) .nil))))
  | _ => none
section
variable {G : Nat → GD} {ρ : Env}
theorem biZ_ok {F : FuncId} (h : Std ovFn ovFb G ρ) {w0 : World} (hG : ∀ k, (G k).ok w0) (hks : ∀ k, (G k).ks = [true]) {mk : R → SV} {mv : Int → Value}
    (hmk : ∀ r b, (mk r).den ρ b = mv (r.e.i ρ)) (hmo : ∀ r N, r.ok ρ → (mk r).ok ρ N)
    (hc : ∀ (g d : GD) (w : World), g.ks = [true] → d.ks = [true] → g.n ≤ 1000 → d.n ≤ 1000 → g.ok w → d.ok w → Calls Try.prog F #[.agg #[.slice g.A g.n g.c, .slice d.A d.n d.c]] w fun e w' => e = .returned (mv (pline g.f g.n d.f d.n)) ∧ Below w.heap.size w w') : HOK Try.prog ρ (argSum F (biZ mk)) := by
  refine argSum_ok fun args gs v hp hg b base w N hok hm hbase => ?_
  unfold biZ at hp
  split at hp
  · rename_i k lo hi len m lo' hi' len'
    cases hp
    obtain ⟨⟨h1, h1', _⟩, _⟩ := hok
    have g1 : decide (ρ.fn 62 [(k : Int), (m : Int)] = 0) = true := hg (.bin .eq (.ap 62 (.cons (.c k) (.cons (.c m) .nil))) (.c 0)) (List.mem_append_right _ (.head _))
    rw [h.f rfl] at g1
    have g1 : pline (G k).f (G k).n (G m).f (G m).n = 0 := of_decide_eq_true g1
    have s1 := size_of h h1 fun g hh => hg g (List.mem_append_left _ (List.mem_append_left _ hh))
    have s2 := size_of h h1' fun g hh => hg g (List.mem_append_left _ (List.mem_append_right _ hh))
    have e1 : (SV.denL ρ b [.agg [.osl k [.int .i64 lo hi] len, .osl m [.int .i64 lo' hi'] len']]).toArray = #[.agg #[.slice (G k).A (G k).n (G k).c, .slice (G m).A (G m).n (G m).c]] := by
      simp only [SV.denL, den_agg]
      rw [h.slice h1, h.slice h1']
    rw [e1]
    refine (hc (G k) (G m) w (hks k) (hks m) (by omega) (by omega) (h.row hG hm hbase k) (h.row hG hm hbase m)).mono ?_
    rintro e w' ⟨h2, h3⟩
    exact ⟨by rw [h2, hmk, g1]; rfl, hmo _ _ ⟨Int.le_refl _, Int.le_refl _⟩, h3⟩
  · cases hp
theorem biN_ok (h : Std ovFn ovFb G ρ) {w0 : World} (hG : ∀ k, (G k).ok w0) (hks : ∀ k, (G k).ks = [true]) : HOK Try.prog ρ (argSum 78 (biN 1000 9223372036854775807)) := by
  refine argSum_ok fun args gs v hp hg b base w N hok hm hbase => ?_
  unfold biN at hp
  split at hp
  · rename_i k lo hi len m lo' hi' len'
    cases hp
    obtain ⟨⟨h1, h1', _⟩, _⟩ := hok
    have g1 : decide (1 ≤ ρ.fn 62 [(k : Int), (m : Int)]) = true := hg (.bin .le (.c 1) (.ap 62 (.cons (.c k) (.cons (.c m) .nil)))) (List.mem_append_right _ (.head _))
    rw [h.f rfl] at g1
    have g1 : 1 ≤ pline (G k).f (G k).n (G m).f (G m).n := of_decide_eq_true g1
    have s1 := size_of h h1 fun g hh => hg g (List.mem_append_left _ (List.mem_append_left _ hh))
    have e1 : (SV.denL ρ b [.agg [.osl k [.int .i64 lo hi] len, .osl m [.int .i64 lo' hi'] len']]).toArray = #[.agg #[.slice (G k).A (G k).n (G k).c, .slice (G m).A (G m).n (G m).c]] := by
      simp only [SV.denL, den_agg]
      rw [h.slice h1, h.slice h1']
    rw [e1]
    refine (refLineMayB (G k) (G m) (hks k) (hks m) (by omega) w (h.row hG hm hbase k) (h.row hG hm hbase m)).mono ?_
    rintro e w' ⟨h2, h3⟩
    have e2 : (E.ap 62 (.cons (.c k) (.cons (.c m) .nil))).i ρ = pline (G k).f (G k).n (G m).f (G m).n := by
      simp only [E.i, E.l]; rw [h.f rfl]; rfl
    refine ⟨by rw [h2, den_int, e2], ?_, h3⟩
    unfold SV.ok R.ok
    rw [e2]
    exact ⟨g1, (pline_bd _ _ _ _).2⟩
  · cases hp
theorem risesB_ok (h : Std ovFn ovFb G ρ) {w0 : World} (hG : ∀ k, (G k).ok w0) (hks : ∀ k, (G k).ks = [true]) : HOK Try.prog ρ (argSum 82 risesB) := by
  refine argSum_ok fun args gs v hp hg b base w N hok hm hbase => ?_
  unfold risesB at hp
  split at hp
  · rename_i k lo hi len m lo' hi' len'
    cases hp
    obtain ⟨⟨h1, h1', _⟩, _⟩ := hok
    have s1 := size_of h h1 fun g hh => hg g (List.mem_append_left _ hh)
    have s2 := size_of h h1' fun g hh => hg g (List.mem_append_right _ hh)
    have e1 : (SV.denL ρ b [.agg [.osl k [.int .i64 lo hi] len, .osl m [.int .i64 lo' hi'] len']]).toArray = #[.agg #[.slice (G k).A (G k).n (G k).c, .slice (G m).A (G m).n (G m).c]] := by
      simp only [SV.denL, den_agg]
      rw [h.slice h1, h.slice h1']
    rw [e1]
    refine (tableRises (G k) (G m) (hks k) (hks m) (by omega) (by omega) w (h.row hG hm hbase k) (h.row hG hm hbase m)).mono ?_
    rintro e w' ⟨h2, h3⟩
    refine ⟨?_, trivial, h3⟩
    rw [h2]
    simp only [SV.den, E.b, E.l, E.i]
    rw [h.b rfl]
    rfl
  · cases hp
end
def lOSum : Handler := orSum (argSum 78 (biB 62 1000 1000 (.int .i64))) (orSum (argSum 96 roverP) (argSum 97 overP))
theorem lO_sum {G : Nat → GD} {ρ : Env} (h : Std ovFn ovFb G ρ) {w0 : World} (hG : ∀ k, (G k).ok w0) (hks : ∀ k, (G k).ks = [true]) : HOK Try.prog ρ lOSum :=
  orSum_ok (biB_ok h hG hks rfl (mv := fun z => .int .i64 z) (φ := fun g d => pline g.f g.n d.f d.n) (fun k m => rfl) (fun g d => pline_bd _ _ _ _) (fun r b => rfl) (fun r N hr => hr) fun g d w hk hk' hn hn' o o' => refLineMay g d hk hk' (by omega) (by omega) w o o')
    (orSum_ok (rover_ov h hG hks fun g d lo hi w hk hk' hn hn' b0 b1 h3 o o' => refOver0 g d hk hk' hn hn' lo hi b0 b1 h3 w o o') (over_ov h hG hks))
def tASum : Handler := plainSum (constSum 123 (.bool (.bc true)))
theorem tA_sum (ρ : Env) : HOK Try.prog ρ tASum := plainSum_ok (constSum_ok (val := .bool true) (fun _ => rfl) (fun _ => trivial) (fun w => topLined w))
def tBSum : Handler := orSum tASum (argSum 78 (biN 1000 9223372036854775807))
theorem tB_sum {G : Nat → GD} {ρ : Env} (h : Std ovFn ovFb G ρ) {w0 : World} (hG : ∀ k, (G k).ok w0) (hks : ∀ k, (G k).ks = [true]) : HOK Try.prog ρ tBSum := orSum_ok (tA_sum ρ) (biN_ok h hG hks)
def tMSum : Handler := orSum tASum (orSum (argSum 78 (biZ (.int .i64))) (orSum (argSum 81 (biZ .err)) (orSum (argSum 149 lookB) (orSum (argSum 82 risesB) (argSum 97 overP)))))
theorem tM_sum {G : Nat → GD} {ρ : Env} (h : Std ovFn ovFb G ρ) {w0 : World} (hG : ∀ k, (G k).ok w0) (hks : ∀ k, (G k).ks = [true]) : HOK Try.prog ρ tMSum :=
  orSum_ok (tA_sum ρ) (orSum_ok (biZ_ok h hG hks (mv := fun z => .int .i64 z) (fun r b => rfl) (fun r N hr => hr) fun g d w hk hk' hn hn' o o' => refLineMay g d hk hk' hn hn' w o o')
    (orSum_ok (biZ_ok h hG hks (mv := errV) (fun r b => err_mk ρ h.et r b) (fun r N hr => hr) fun g d w hk hk' hn hn' o o' => tableCheck g d hk hk' hn hn' w o o')
      (orSum_ok (lookB_ov h hG hks fun g d x w hk hk' hn hn' hx hp o o' => tableLook0 g d hk hk' hn hn' x hx hp w o o') (orSum_ok (risesB_ok h hG hks) (over_ov h hG hks)))))
def lOArgs : List SV := [.agg [.osl 0 [.int .i64 (-9223372036854775808) 9223372036854775807] ⟨.v 4, 0, 9223372036854775807⟩, .osl 1 [.int .i64 (-9223372036854775808) 9223372036854775807] ⟨.v 6, 0, 9223372036854775807⟩], .agg [.int .i64 ⟨.v 20, -9223372036854775808, 9223372036854775807⟩, .int .i64 ⟨.v 21, -9223372036854775808, 9223372036854775807⟩]]
def tAArgs : List SV := [.agg [.osl 0 [.int .i64 (-9223372036854775808) 9223372036854775807] ⟨.v 4, 21, 9223372036854775807⟩, .osl 1 [.int .i64 (-9223372036854775808) 9223372036854775807] ⟨.v 6, 0, 9223372036854775807⟩], .int .i64 ⟨.v 20, -9223372036854775808, 9223372036854775807⟩, .int .i64 ⟨.v 21, -9223372036854775808, 9223372036854775807⟩]
def tBArgs : List SV := [.agg [.osl 0 [.int .i64 (-9223372036854775808) 9223372036854775807] ⟨.v 4, 0, 20⟩, .osl 1 [.int .i64 (-9223372036854775808) 9223372036854775807] ⟨.v 6, 0, 9223372036854775807⟩], .int .i64 ⟨.v 20, -9223372036854775808, 9223372036854775807⟩, .int .i64 ⟨.v 21, -9223372036854775808, 9223372036854775807⟩]
end Go.Proofs.Ytdfpenjhpemokaa.Sx
