/-
  A line over a span: what it is; contracts as handlers.
-/
import Derived.Test.YtdfpenjhpemokaaOver2
import Derived.Test.YtdfpenjhpemokaaLineTC
import Derived.Test.YtdfpenjhpemokaaSxLaw
set_option linter.unusedVariables false
set_option linter.unusedSimpArgs false
namespace Go.Proofs.Ytdfpenjhpemokaa.Sx
open Go.RowKit
/-- The reference's hull: the ends, then the points within. -/
def povr (L : Int → Int) (f g : Nat → Int) (lo hi : Int) : Nat → Int × Int
  | 0 => (min (L lo) (L hi), max (L lo) (L hi))
  | k + 1 => if lo ≤ f k ∧ f k ≤ hi then (min (povr L f g lo hi k).1 (g k), max (povr L f g lo hi k).2 (g k)) else povr L f g lo hi k
theorem over_eq {L : Int → Int} {f : Nat → N64} {g : Nat → Int} {lo hi : N64} : ∀ k, (∀ j, j < k → L (f j).1 = g j) → ovHull L (L lo.1) (ovF f lo hi k) = povr L (fun j => (f j).1) g lo.1 hi.1 k := by
  intro k
  induction k with
  | zero =>
    intro _
    simp only [ovF, povr, ovHull, List.foldl]
    congr 1 <;> omega
  | succ k ih =>
    intro h
    have e := ih fun j hj => h j (by omega)
    simp only [ovF, povr]
    split
    · rw [ovHull_snoc, e, h k (by omega)]
    · exact e
theorem plook_point {f g : Nat → Int} {n : Nat} (hn : 2 ≤ n) (hr : RiseAll f n) {i : Nat} (hi : i < n) : plook f g n (f i) = g i := by
  by_cases h0 : i = 0
  · subst h0; exact plook_first hn hr (Int.le_refl _)
  · by_cases h1 : i = n - 1
    · subst h1; exact plook_last hn hr (Int.le_refl _)
    · have a := rise_lt hr 0 i (by omega) hi
      have b := rise_lt hr i (n - 1) (by omega) (by omega)
      rw [plook_mid (i := i) hr a b (by omega) (Int.le_refl _) (hr i (by omega)), ← pval_eq f g i (f i) (hr i (by omega)), pval_lo f g i (hr i (by omega))]
theorem povr_bd {L : Int → Int} {f g : Nat → Int} {lo hi : Int} (hL : ∀ x, -4000000 ≤ L x ∧ L x ≤ 4000000) : ∀ k, (∀ j, j < k → -1000000 ≤ g j ∧ g j ≤ 1000000) → (-4000000 ≤ (povr L f g lo hi k).1 ∧ (povr L f g lo hi k).1 ≤ 4000000) ∧ -4000000 ≤ (povr L f g lo hi k).2 ∧ (povr L f g lo hi k).2 ≤ 4000000 := by
  intro k
  induction k with
  | zero =>
    intro _
    have a := hL lo
    have b := hL hi
    simp only [povr]
    omega
  | succ k ih =>
    intro h
    have e := ih fun j hj => h j (by omega)
    have c := h k (by omega)
    simp only [povr]
    split
    · simp only; omega
    · exact e
/-- What is told of a line over a span: the error's number, the two ends. -/
def pover3 (g d : GD) (lo hi : Int) : Int := if pline g.f g.n d.f d.n = 0 then pspan lo hi else pline g.f g.n d.f d.n
def poverL (g d : GD) (lo hi : Int) : Int := if pover3 g d lo hi = 0 then (povr (fun x => plook g.f d.f g.n x) g.f d.f lo hi g.n).1 else 0
def poverH (g d : GD) (lo hi : Int) : Int := if pover3 g d lo hi = 0 then (povr (fun x => plook g.f d.f g.n x) g.f d.f lo hi g.n).2 else 0
theorem pspan_bd (a b : Int) : 0 ≤ pspan a b ∧ pspan a b ≤ 5 := by unfold pspan; split <;> omega
theorem pover3_bd (g d : GD) (lo hi : Int) : 0 ≤ pover3 g d lo hi ∧ pover3 g d lo hi ≤ 5 := by
  unfold pover3
  split
  · exact pspan_bd _ _
  · exact pline_bd _ _ _ _
theorem pover_parts {g d : GD} {lo hi : Int} (h : pover3 g d lo hi = 0) : pline g.f g.n d.f d.n = 0 ∧ pspan lo hi = 0 := by
  unfold pover3 at h
  split at h
  · rename_i hc; exact ⟨hc, h⟩
  · rename_i hc; exact absurd h hc
theorem pover_bd (g d : GD) (lo hi : Int) : (-4000000 ≤ poverL g d lo hi ∧ poverL g d lo hi ≤ 4000000) ∧ -4000000 ≤ poverH g d lo hi ∧ poverH g d lo hi ≤ 4000000 := by
  unfold poverL poverH
  split
  · rename_i hc
    obtain ⟨hp, _⟩ := pover_parts hc
    obtain ⟨_, _, _, _, _, wg⟩ := pline_parts hp
    exact povr_bd (fun x => plook_bd hp x) _ wg
  · omega
/-- table.Over, of any line and span. -/
theorem tableOver (g d : GD) (hk : g.ks = [true]) (hk' : d.ks = [true]) (hn : g.n ≤ 1000) (hn' : d.n ≤ 1000) (lo hi : Int) (b0 : B64 lo) (b1 : B64 hi) (w : World) (o : g.ok w) (o' : d.ok w) :
    Calls Try.prog 97 #[.agg #[.slice g.A g.n g.c, .slice d.A d.n d.c], .agg #[.int .i64 lo, .int .i64 hi]] w fun e w' => e = .returned (.tuple #[.agg #[.int .i64 (poverL g d lo hi), .int .i64 (poverH g d lo hi)], errV (pover3 g d lo hi)]) ∧ Below w.heap.size w w' := by
  by_cases hp : pline g.f g.n d.f d.n = 0
  · by_cases hs : pspan lo hi = 0
    · obtain ⟨hnn, n2, n8, wf, rf, wg⟩ := pline_parts hp
      have h3 : pover3 g d lo hi = 0 := by unfold pover3; rw [if_pos hp]; exact hs
      have e := over_eq (L := fun x => plook g.f d.f g.n x) (f := gd64 g o.b64) (g := d.f) (lo := ⟨lo, b0⟩) (hi := ⟨hi, b1⟩) g.n (fun j hj => plook_point n2 rf hj)
      have key := tableOver0 g d hk hk' hn hn' lo hi b0 b1 (fun _ => hp) (fun _ => hs) w o o' (plook g.f d.f g.n lo) (poverL g d lo hi) (poverH g d lo hi) (fun _ => rfl) (by unfold poverL; rw [if_pos h3]; exact congrArg Prod.fst e) (by unfold poverH; rw [if_pos h3]; exact congrArg Prod.snd e)
      rw [h3]
      exact key
    · have h3 : pover3 g d lo hi = pspan lo hi := by unfold pover3; rw [if_pos hp]
      have hL : poverL g d lo hi = 0 := by unfold poverL; rw [h3, if_neg hs]
      have hH : poverH g d lo hi = 0 := by unfold poverH; rw [h3, if_neg hs]
      rw [hL, hH, h3]
      exact tableOver_e2 g d hk hk' hn hn' lo hi (pspan lo hi) (fun _ => hp) (fun _ => rfl) hs w o o'
  · have h3 : pover3 g d lo hi = pline g.f g.n d.f d.n := by unfold pover3; rw [if_neg hp]
    have hL : poverL g d lo hi = 0 := by unfold poverL; rw [h3, if_neg hp]
    have hH : poverH g d lo hi = 0 := by unfold poverH; rw [h3, if_neg hp]
    rw [hL, hH, h3]
    exact tableOver_e1 g d hk hk' hn hn' lo hi _ (fun _ => rfl) hp w o o'
def ovFn (G : Nat → GD) (id : Nat) (l : List Int) : Int := match id, l with
  | 62, [k, m] => pline (G k.toNat).f (G k.toNat).n (G m.toNat).f (G m.toNat).n
  | 64, [k, m, x] => plook (G k.toNat).f (G m.toNat).f (G k.toNat).n x
  | 71, [k, m, lo, hi] => poverL (G k.toNat) (G m.toNat) lo hi
  | 72, [k, m, lo, hi] => poverH (G k.toNat) (G m.toNat) lo hi
  | 73, [k, m, lo, hi] => pover3 (G k.toNat) (G m.toNat) lo hi
  | _, _ => 0
def ovFb (G : Nat → GD) (id : Nat) (l : List Int) : Bool := match id, l with
  | 65, [k, m] => decide (pline (G k.toNat).f (G k.toNat).n (G m.toNat).f (G m.toNat).n = 0) && pnofall (G m.toNat).f (G m.toNat).n
  | _, _ => false
def lookB (args : List SV) : Option (List E × SV) := match args with
  | [.agg [.osl k [.int .i64 _ _] len, .osl m [.int .i64 _ _] len'], .int .i64 x] => if -9223372036854775808 ≤ x.lo ∧ x.hi ≤ 9223372036854775807 then some (geC len 1000 ++ geC len' 1000 ++ [.bin .eq (.ap 62 (.cons (.c k) (.cons (.c m) .nil))) (.c 0)], .int .i64 ⟨.ap 64 (.cons (.c k) (.cons (.c m) (.cons x.e .nil))), -4000000, 4000000⟩) else none
  | _ => none
def overP (args : List SV) : Option (List E × SV) := match args with
  | [.agg [.osl k [.int .i64 _ _] len, .osl m [.int .i64 _ _] len'], .agg [.int .i64 x, .int .i64 y]] => if x.in64 && y.in64 then some (geC len 1000 ++ geC len' 1000, .tup [.agg [.int .i64 ⟨.ap 71 (.cons (.c k) (.cons (.c m) (.cons x.e (.cons y.e .nil)))), -4000000, 4000000⟩, .int .i64 ⟨.ap 72 (.cons (.c k) (.cons (.c m) (.cons x.e (.cons y.e .nil)))), -4000000, 4000000⟩], .err ⟨.ap 73 (.cons (.c k) (.cons (.c m) (.cons x.e (.cons y.e .nil)))), 0, 5⟩]) else none
  | _ => none
def roverP (args : List SV) : Option (List E × SV) := match args with
  | [.agg [.osl k [.int .i64 _ _] len, .osl m [.int .i64 _ _] len'], .agg [.int .i64 x, .int .i64 y]] => if x.in64 && y.in64 then some (geC len 1000 ++ geC len' 1000 ++ [.bin .eq (.ap 73 (.cons (.c k) (.cons (.c m) (.cons x.e (.cons y.e .nil))))) (.c 0)], .agg [.int .i64 ⟨.ap 71 (.cons (.c k) (.cons (.c m) (.cons x.e (.cons y.e .nil)))), -4000000, 4000000⟩, .int .i64 ⟨.ap 72 (.cons (.c k) (.cons (.c m) (.cons x.e (.cons y.e .nil)))), -4000000, 4000000⟩]) else none
  | _ => none
section
variable {G : Nat → GD} {ρ : Env}
theorem lookB_ov {F : FuncId} (h : Std ovFn ovFb G ρ) {w0 : World} (hG : ∀ k, (G k).ok w0) (hks : ∀ k, (G k).ks = [true])
    (hc : ∀ (g d : GD) (x : Int) (w : World), g.ks = [true] → d.ks = [true] → g.n ≤ 1000 → d.n ≤ 1000 → B64 x → pline g.f g.n d.f d.n = 0 → g.ok w → d.ok w → Calls Try.prog F #[.agg #[.slice g.A g.n g.c, .slice d.A d.n d.c], .int .i64 x] w fun e w' => e = .returned (.int .i64 (plook g.f d.f g.n x)) ∧ Below w.heap.size w w') : HOK Try.prog ρ (argSum F lookB) := by
  refine argSum_ok fun args gs v hp hg b base w N hok hm hbase => ?_
  unfold lookB at hp
  split at hp
  · rename_i k lo hi len m lo' hi' len' x
    split at hp
    · rename_i hl
      cases hp
      obtain ⟨⟨h1, h1', _⟩, h2, _⟩ := hok
      have g1 : decide (ρ.fn 62 [(k : Int), (m : Int)] = 0) = true := hg (.bin .eq (.ap 62 (.cons (.c k) (.cons (.c m) .nil))) (.c 0)) (List.mem_append_right _ (.head _))
      rw [h.f rfl] at g1
      have g1 : pline (G k).f (G k).n (G m).f (G m).n = 0 := of_decide_eq_true g1
      have s1 := size_of h h1 fun g hh => hg g (List.mem_append_left _ (List.mem_append_left _ hh))
      have s2 := size_of h h1' fun g hh => hg g (List.mem_append_left _ (List.mem_append_right _ hh))
      have e1 : (SV.denL ρ b [.agg [.osl k [.int .i64 lo hi] len, .osl m [.int .i64 lo' hi'] len'], .int .i64 x]).toArray = #[.agg #[.slice (G k).A (G k).n (G k).c, .slice (G m).A (G m).n (G m).c], .int .i64 (x.e.i ρ)] := by
        simp only [SV.denL, den_agg, den_int]
        rw [h.slice h1, h.slice h1']
      rw [e1]
      refine (hc (G k) (G m) (x.e.i ρ) w (hks k) (hks m) (by omega) (by omega) ⟨by have := h2.1; omega, by have := h2.2; omega⟩ g1 (h.row hG hm hbase k) (h.row hG hm hbase m)).mono ?_
      rintro e w' ⟨h3, h4⟩
      have e2 : (E.ap 64 (.cons (.c k) (.cons (.c m) (.cons x.e .nil)))).i ρ = plook (G k).f (G m).f (G k).n (x.e.i ρ) := by
        simp only [E.i, E.l]
        rw [h.f rfl]
        rfl
      refine ⟨by rw [h3, den_int, e2], ?_, h4⟩
      simp only [SV.ok, R.ok, e2]
      exact plook_bd g1 _
    · cases hp
  · cases hp
theorem over_ov (h : Std ovFn ovFb G ρ) {w0 : World} (hG : ∀ k, (G k).ok w0) (hks : ∀ k, (G k).ks = [true]) : HOK Try.prog ρ (argSum 97 overP) := by
  refine argSum_ok fun args gs v hp hg b base w N hok hm hbase => ?_
  unfold overP at hp
  split at hp
  · rename_i k lo hi len m lo' hi' len' x y
    split at hp
    · rename_i hl
      rw [Bool.and_eq_true] at hl
      cases hp
      obtain ⟨⟨h1, h1', _⟩, ⟨h2, h2', _⟩, _⟩ := hok
      have s1 := size_of h h1 fun g hh => hg g (List.mem_append_left _ hh)
      have s2 := size_of h h1' fun g hh => hg g (List.mem_append_right _ hh)
      have e1 : (SV.denL ρ b [.agg [.osl k [.int .i64 lo hi] len, .osl m [.int .i64 lo' hi'] len'], .agg [.int .i64 x, .int .i64 y]]).toArray = #[.agg #[.slice (G k).A (G k).n (G k).c, .slice (G m).A (G m).n (G m).c], .agg #[.int .i64 (x.e.i ρ), .int .i64 (y.e.i ρ)]] := by
        simp only [SV.denL, den_agg, den_int]
        rw [h.slice h1, h.slice h1']
      rw [e1]
      refine (tableOver (G k) (G m) (hks k) (hks m) (by omega) (by omega) (x.e.i ρ) (y.e.i ρ) (R.in64_ok hl.1 h2) (R.in64_ok hl.2 h2') w (h.row hG hm hbase k) (h.row hG hm hbase m)).mono ?_
      rintro e w' ⟨h3, h4⟩
      have q1 : (E.ap 71 (.cons (.c k) (.cons (.c m) (.cons x.e (.cons y.e .nil))))).i ρ = poverL (G k) (G m) (x.e.i ρ) (y.e.i ρ) := by
        simp only [E.i, E.l]; rw [h.f rfl]; rfl
      have q2 : (E.ap 72 (.cons (.c k) (.cons (.c m) (.cons x.e (.cons y.e .nil))))).i ρ = poverH (G k) (G m) (x.e.i ρ) (y.e.i ρ) := by
        simp only [E.i, E.l]; rw [h.f rfl]; rfl
      have q3 : (E.ap 73 (.cons (.c k) (.cons (.c m) (.cons x.e (.cons y.e .nil))))).i ρ = pover3 (G k) (G m) (x.e.i ρ) (y.e.i ρ) := by
        simp only [E.i, E.l]; rw [h.f rfl]; rfl
      have eb := err_mk ρ h.et ⟨.ap 73 (.cons (.c k) (.cons (.c m) (.cons x.e (.cons y.e .nil)))), 0, 5⟩ b
      have bd := pover_bd (G k) (G m) (x.e.i ρ) (y.e.i ρ)
      have b3 := pover3_bd (G k) (G m) (x.e.i ρ) (y.e.i ρ)
      refine ⟨?_, ?_, h4⟩
      · rw [h3]
        have : ∀ l, (SV.tup l).den ρ b = .tuple (SV.denL ρ b l).toArray := fun l => by simp only [SV.den]
        rw [this]
        simp only [SV.denL]
        rw [eb]
        simp only [den_agg, SV.denL, den_int, q1, q2, q3]
      · refine ⟨⟨?_, ?_, trivial⟩, ?_, trivial⟩
        · unfold SV.ok R.ok; rw [q1]; exact bd.1
        · unfold SV.ok R.ok; rw [q2]; exact bd.2
        · unfold SV.ok R.ok; rw [q3]; exact b3
    · cases hp
  · cases hp
theorem rover_ov (h : Std ovFn ovFb G ρ) {w0 : World} (hG : ∀ k, (G k).ok w0) (hks : ∀ k, (G k).ks = [true])
    (hc : ∀ (g d : GD) (lo hi : Int) (w : World), g.ks = [true] → d.ks = [true] → g.n ≤ 1000 → d.n ≤ 1000 → B64 lo → B64 hi → pover3 g d lo hi = 0 → g.ok w → d.ok w → Calls Try.prog 96 #[.agg #[.slice g.A g.n g.c, .slice d.A d.n d.c], .agg #[.int .i64 lo, .int .i64 hi]] w fun e w' => e = .returned (.agg #[.int .i64 (poverL g d lo hi), .int .i64 (poverH g d lo hi)]) ∧ Below w.heap.size w w') : HOK Try.prog ρ (argSum 96 roverP) := by
  refine argSum_ok fun args gs v hp hg b base w N hok hm hbase => ?_
  unfold roverP at hp
  split at hp
  · rename_i k lo hi len m lo' hi' len' x y
    split at hp
    · rename_i hl
      rw [Bool.and_eq_true] at hl
      cases hp
      obtain ⟨⟨h1, h1', _⟩, ⟨h2, h2', _⟩, _⟩ := hok
      have s1 := size_of h h1 fun g hh => hg g (List.mem_append_left _ (List.mem_append_left _ hh))
      have s2 := size_of h h1' fun g hh => hg g (List.mem_append_left _ (List.mem_append_right _ hh))
      have q3 : (E.ap 73 (.cons (.c k) (.cons (.c m) (.cons x.e (.cons y.e .nil))))).i ρ = pover3 (G k) (G m) (x.e.i ρ) (y.e.i ρ) := by
        simp only [E.i, E.l]; rw [h.f rfl]; rfl
      have g3 : decide ((E.ap 73 (.cons (.c k) (.cons (.c m) (.cons x.e (.cons y.e .nil))))).i ρ = 0) = true := hg (.bin .eq (.ap 73 (.cons (.c k) (.cons (.c m) (.cons x.e (.cons y.e .nil))))) (.c 0)) (List.mem_append_right _ (.head _))
      rw [q3] at g3
      have e1 : (SV.denL ρ b [.agg [.osl k [.int .i64 lo hi] len, .osl m [.int .i64 lo' hi'] len'], .agg [.int .i64 x, .int .i64 y]]).toArray = #[.agg #[.slice (G k).A (G k).n (G k).c, .slice (G m).A (G m).n (G m).c], .agg #[.int .i64 (x.e.i ρ), .int .i64 (y.e.i ρ)]] := by
        simp only [SV.denL, den_agg, den_int]
        rw [h.slice h1, h.slice h1']
      rw [e1]
      refine (hc (G k) (G m) (x.e.i ρ) (y.e.i ρ) w (hks k) (hks m) (by omega) (by omega) (R.in64_ok hl.1 h2) (R.in64_ok hl.2 h2') (of_decide_eq_true g3) (h.row hG hm hbase k) (h.row hG hm hbase m)).mono ?_
      rintro e w' ⟨h3, h4⟩
      have q1 : (E.ap 71 (.cons (.c k) (.cons (.c m) (.cons x.e (.cons y.e .nil))))).i ρ = poverL (G k) (G m) (x.e.i ρ) (y.e.i ρ) := by
        simp only [E.i, E.l]; rw [h.f rfl]; rfl
      have q2 : (E.ap 72 (.cons (.c k) (.cons (.c m) (.cons x.e (.cons y.e .nil))))).i ρ = poverH (G k) (G m) (x.e.i ρ) (y.e.i ρ) := by
        simp only [E.i, E.l]; rw [h.f rfl]; rfl
      have bd := pover_bd (G k) (G m) (x.e.i ρ) (y.e.i ρ)
      refine ⟨?_, ?_, h4⟩
      · rw [h3]
        simp only [den_agg, SV.denL, den_int, q1, q2]
      · refine ⟨?_, ?_, trivial⟩
        · unfold SV.ok R.ok; rw [q1]; exact bd.1
        · unfold SV.ok R.ok; rw [q2]; exact bd.2
    · cases hp
  · cases hp
end
def rOSum : Handler := argSum 79 lookB
theorem rO_sum {G : Nat → GD} {ρ : Env} (h : Std ovFn ovFb G ρ) {w0 : World} (hG : ∀ k, (G k).ok w0) (hks : ∀ k, (G k).ks = [true]) : HOK Try.prog ρ rOSum :=
  lookB_ov h hG hks fun g d x w hk hk' hn hn' hx hp o o' => refLook0 g d hk hk' hn hn' x hx hp w o o'
end Go.Proofs.Ytdfpenjhpemokaa.Sx
