/-
  Whether the numbers of a list may be: the program's and the reference's answer.
-/
import Derived.Test.YtdfpenjhpemokaaWorthRun
import Derived.Test.YtdfpenjhpemokaaLinePl
import Derived.Test.YtdfpenjhpemokaaErr
import Derived.Test.YtdfpenjhpemokaaSxDen
set_option linter.unusedVariables false
set_option linter.unusedSimpArgs false
namespace Go.Proofs.Ytdfpenjhpemokaa.Sx
open Go.RowKit

structure One (g : GD) (ρ : Env) : Prop where
  std : Std noF noB (one g) ρ
  len : ρ.iv 4 = g.n
  small : g.n ≤ 1000
theorem One.same {g : GD} {ρ ρ' : Env} (h : One g ρ) (hs : Same ρ ρ' [] []) : One g ρ' := ⟨h.std.same hs, (iv_same hs rfl).trans h.len, h.small⟩
theorem One.el {g : GD} {ρ : Env} (h : One g ρ) (i : Int) : ρ.fn 1000 [i] = g.f i.toNat := h.std.e (k := 0) (j := 0) rfl i
structure WorthI (g : GD) (ρ : Env) : Prop where
  one : One g ρ
  lo : 0 ≤ ρ.iv 13
  hi : ρ.iv 13 ≤ g.n
  all : WorthAll g.f (ρ.iv 13).toNat
structure WorthI2 (g : GD) (ρ : Env) : Prop where
  i : WorthI g ρ
  all : WorthAll g.f g.n
theorem WorthI.same {g : GD} {ρ ρ' : Env} (h : WorthI g ρ) (hs : Same ρ ρ' [] []) : WorthI g ρ' ∧ (g.n - ρ'.iv 13).toNat = (g.n - ρ.iv 13).toNat := by
  have e := iv_same hs (n := 13) rfl
  exact ⟨⟨h.one.same hs, by rw [e]; exact h.lo, by rw [e]; exact h.hi, by rw [e]; exact h.all⟩, by rw [e]⟩
theorem WorthI.next {g : GD} {ρ : Env} (h : WorthI g ρ) {σ : Sub} (h4 : (ρ.sub σ).iv 4 = ρ.iv 4) (h13 : (ρ.sub σ).iv 13 = ρ.iv 13 + 1) (c1 : -1000000 ≤ ρ.fn 1000 [ρ.iv 13] ∧ ρ.fn 1000 [ρ.iv 13] ≤ 1000000) (c2 : ρ.iv 13 < ρ.iv 4) : WorthI g (ρ.sub σ) := by
  have hl := h.lo
  have hlen := h.one.len
  rw [h.one.el] at c1
  refine ⟨⟨h.one.std.sub σ, h4.trans hlen, h.one.small⟩, by rw [h13]; omega, by rw [h13]; omega, ?_⟩
  rw [h13]
  intro k hk
  by_cases hk' : k < (ρ.iv 13).toNat
  · exact h.all k hk'
  · have : k = (ρ.iv 13).toNat := by omega
    subst this
    exact c1
theorem WorthI.bad {g : GD} {ρ : Env} (h : WorthI g ρ) (c1 : ¬(-1000000 ≤ ρ.fn 1000 [ρ.iv 13] ∧ ρ.fn 1000 [ρ.iv 13] ≤ 1000000)) (c2 : ρ.iv 13 < ρ.iv 4) : pworth g.f g.n = 1 := by
  have hl := h.lo
  have hlen := h.one.len
  rw [h.one.el] at c1
  exact pworth_bad (k := (ρ.iv 13).toNat) (by omega) c1
theorem WorthI.done {g : GD} {ρ : Env} (h : WorthI g ρ) (c : ρ.iv 4 ≤ ρ.iv 13) : WorthAll g.f g.n := by
  have hlen := h.one.len
  have hh := h.hi
  have : (ρ.iv 13).toNat = g.n := by omega
  rw [← this]
  exact h.all
theorem one_start {g : GD} {w : World} (o : g.ok w) (hk : g.ks = [true]) (hn : g.n ≤ 1000) (b : Bd) : ∃ ρ, One g ρ ∧ ρ.iv 13 = 0 ∧ Mem ρ (· < w.heap.size) w ∧ ∀ hi : Int, (hi = 1000 → (SV.osl 0 [.int .i64 (-9223372036854775808) 9223372036854775807] ⟨.v 4, 0, hi⟩).ok ρ (· < 0) ∧ (SV.osl 0 [.int .i64 (-9223372036854775808) 9223372036854775807] ⟨.v 4, 0, hi⟩).den ρ b = .slice g.A g.n g.c) := by
  obtain ⟨⟨q1, q2, q3, q4⟩, q5⟩ := gen_osl (et := 23) (iv := fun n => match n with | 4 => g.n | _ => 0) (bv := fun _ => false) (fn := noF (one g)) (fb := noB (one g)) (fl := fun _ _ => []) (one_ok o) (k := 0) (m := 4) (sh := [.int .i64 (-9223372036854775808) 9223372036854775807]) (by show g.ks.map ckOf = _; rw [hk]; rfl) rfl (by show g.ks.length ≤ 100; rw [hk]; decide) (· < 0) b
  refine ⟨genEnv 23 (fun n => match n with | 4 => g.n | _ => 0) (fun _ => false) (noF (one g)) (noB (one g)) (fun _ _ => []) (one g), ⟨Std.gen () _ _ _, rfl, hn⟩, rfl, gen_mem (one_ok o), fun hi hh => ?_⟩
  subst hh
  exact ⟨⟨⟨q1.1, by show (g.n : Int) ≤ 1000; omega⟩, by decide, q3, q4⟩, q5⟩
theorem errV_0 : errV 0 = .nilIface := rfl
set_option maxRecDepth 100000 in
theorem tableWorth (g : GD) (hk : g.ks = [true]) (hn : g.n ≤ 1000) (w : World) (o : g.ok w) :
    Calls Try.prog 151 #[.slice g.A g.n g.c] w fun e w' => e = .returned (errV (pworth g.f g.n)) ∧ Below w.heap.size w w' := by
  obtain ⟨ρ0, h0, h13, hm, hsl⟩ := one_start o hk hn ⟨fun _ => 0, fun _ => 0, fun _ => 0⟩
  obtain ⟨s1, s2⟩ := hsl 1000 rfl
  have key := loop1_ret (P := Try.prog) (cfg := cfgK noSum twKeeps 50 12) Try.func151 rfl (k := 2) (i := 0) (n := 5) (by decide +kernel) (by kernel_rfl) (args := twArgs) (H := []) (nx := 0) tw_ran0 tw_defs0 tw_no0 tw_ran1 tw_defs1 tw_no1 tw_ran2 tw_defs2 tw_no2 (V := errV (pworth g.f g.n)) (One g) (WorthI g) (WorthI2 g) (fun ρ => (g.n - ρ.iv 13).toNat)
    (fun ρ h => ⟨h.std.et, noSum_ok _ _⟩) (fun ρ h => ⟨h.one.std.et, noSum_ok _ _⟩) (fun ρ ρ' h hs => h.same hs) (fun ρ ρ' h hs => h.same hs) (fun ρ h => h.i) (fun ρ ρ' h hs => ⟨(h.i.same hs).1, h.all⟩) (by kernel_rfl)
    (fun ρ h => List.forall_mem_cons.2 ⟨fit_of (z := ρ.iv 4) rfl (by have := h.len; show (0 : Int) ≤ ρ.iv 4; omega) (by have := h.len; have := h.small; show ρ.iv 4 ≤ 1000; omega), fun _ h => nomatch h⟩)
    (fun ρ h => by
      have h1 := h.lo
      have h2 := h.hi
      have h3 := h.one.len
      have h4 := h.one.small
      refine List.forall_mem_cons.2 ⟨?_, List.forall_mem_cons.2 ⟨?_, List.forall_mem_cons.2 ⟨?_, fun _ h => nomatch h⟩⟩⟩
      · exact fit_of (z := ρ.iv 13) rfl h1 (by show ρ.iv 13 ≤ 1000; omega)
      · exact fit_of (z := ρ.iv 4) rfl (by show (0 : Int) ≤ ρ.iv 4; omega) (by show ρ.iv 4 ≤ 1000; omega)
      · exact fit_of (z := ρ.iv 4) rfl (by show (0 : Int) ≤ ρ.iv 4; omega) (by show ρ.iv 4 ≤ 1000; omega))
    (fun ρ h hv => trivial) (fun ρ h hv => trivial) (fun ρ h hv => trivial)
    (by
      refine List.forall_mem_cons.2 ⟨?_, fun _ h => nomatch h⟩
      intro ρ h _ _
      exact .inr ⟨rfl, rfl, ⟨h.std.sub _, h.len, h.small⟩, Int.le_refl _, Int.natCast_nonneg _, fun k hk => absurd hk (Nat.not_lt_zero k)⟩)
    (by
      refine List.forall_mem_cons.2 ⟨?_, List.forall_mem_cons.2 ⟨?_, List.forall_mem_cons.2 ⟨?_, fun _ h => nomatch h⟩⟩⟩
      · intro ρ h _ hp
        obtain ⟨c1, c2, _⟩ := Eq.mp (tw_1_pc0 ρ) hp
        simp only [Bool.or_eq_true, decide_eq_true_eq] at c1 c2
        refine .inr (.inr ⟨rfl, List.forall_mem_cons.2 ⟨fit_const _ _, fun _ h => nomatch h⟩, [.ifc 23 (.int .i64 ⟨.c 1, 1, 1⟩)], by kernel_rfl, fun b => ?_⟩)
        rw [h.bad (by omega) c2]
        rfl
      · intro ρ h _ hp
        obtain ⟨c1, c2, _⟩ := Eq.mp (tw_1_pc1 ρ) hp
        simp only [Bool.not_eq_true', Bool.or_eq_false_iff, decide_eq_false_iff_not, decide_eq_true_eq] at c1 c2
        refine .inl ⟨rfl, rfl, h.next rfl rfl (by omega) c2, ?_⟩
        have h1 := h.hi
        have h3 := h.one.len
        show (g.n - (ρ.iv 13 + 1)).toNat < (g.n - ρ.iv 13).toNat
        omega
      · intro ρ h _ hp
        obtain ⟨c1, _⟩ := Eq.mp (tw_1_pc2 ρ) hp
        exact .inr (.inl ⟨rfl, rfl, ⟨⟨h.one.std.sub _, h.one.len, h.one.small⟩, h.lo, h.hi, h.all⟩, h.done (of_decide_eq_true c1)⟩))
    (by
      refine List.forall_mem_cons.2 ⟨?_, fun _ h => nomatch h⟩
      intro ρ h _ hp
      refine ⟨.inr rfl, (fun r hr => (by cases hr)), [.nili], by kernel_rfl, fun b => ?_⟩
      rw [pworth_ok h.all]
      rfl)
    h0 ⟨fun _ => 0, fun _ => 0, fun _ => 0⟩ w (noHeap _ _ _ _) ⟨s1, trivial⟩ hm
  have e : SV.denL ρ0 ⟨fun _ => 0, fun _ => 0, fun _ => 0⟩ twArgs = [.slice g.A g.n g.c] := by
    unfold twArgs
    simp only [SV.denL]
    rw [s2]
  rw [e] at key
  exact key
set_option maxRecDepth 100000 in
theorem refWorth (g : GD) (hk : g.ks = [true]) (hn : g.n ≤ 1000) (w : World) (o : g.ok w) :
    Calls Try.prog 147 #[.slice g.A g.n g.c] w fun e w' => e = .returned (.int .i64 (pworth g.f g.n)) ∧ Below w.heap.size w w' := by
  obtain ⟨ρ0, h0, h13, hm, hsl⟩ := one_start o hk hn ⟨fun _ => 0, fun _ => 0, fun _ => 0⟩
  obtain ⟨s1, s2⟩ := hsl 1000 rfl
  have key := loop1_ret (P := Try.prog) (cfg := cfgK noSum rwKeeps 50 12) Try.func147 rfl (k := 2) (i := 0) (n := 5) (by decide +kernel) (by kernel_rfl) (args := rwArgs) (H := []) (nx := 0) rw_ran0 rw_defs0 rw_no0 rw_ran1 rw_defs1 rw_no1 rw_ran2 rw_defs2 rw_no2 (V := .int .i64 (pworth g.f g.n)) (One g) (WorthI g) (WorthI2 g) (fun ρ => (g.n - ρ.iv 13).toNat)
    (fun ρ h => ⟨h.std.et, noSum_ok _ _⟩) (fun ρ h => ⟨h.one.std.et, noSum_ok _ _⟩) (fun ρ ρ' h hs => h.same hs) (fun ρ ρ' h hs => h.same hs) (fun ρ h => h.i) (fun ρ ρ' h hs => ⟨(h.i.same hs).1, h.all⟩) (by kernel_rfl)
    (fun ρ h => List.forall_mem_cons.2 ⟨fit_of (z := ρ.iv 4) rfl (by have := h.len; show (0 : Int) ≤ ρ.iv 4; omega) (by have := h.len; have := h.small; show ρ.iv 4 ≤ 1000; omega), fun _ h => nomatch h⟩)
    (fun ρ h => by
      have h1 := h.lo
      have h2 := h.hi
      have h3 := h.one.len
      have h4 := h.one.small
      refine List.forall_mem_cons.2 ⟨?_, List.forall_mem_cons.2 ⟨?_, fun _ h => nomatch h⟩⟩
      · exact fit_of (z := ρ.iv 13) rfl h1 (by show ρ.iv 13 ≤ 1000; omega)
      · exact fit_of (z := ρ.iv 4) rfl (by show (0 : Int) ≤ ρ.iv 4; omega) (by show ρ.iv 4 ≤ 1000; omega))
    (fun ρ h hv => trivial) (fun ρ h hv => trivial) (fun ρ h hv => trivial)
    (by
      refine List.forall_mem_cons.2 ⟨?_, fun _ h => nomatch h⟩
      intro ρ h _ _
      exact .inr ⟨rfl, rfl, ⟨h.std.sub _, h.len, h.small⟩, Int.le_refl _, Int.natCast_nonneg _, fun k hk => absurd hk (Nat.not_lt_zero k)⟩)
    (by
      refine List.forall_mem_cons.2 ⟨?_, List.forall_mem_cons.2 ⟨?_, List.forall_mem_cons.2 ⟨?_, fun _ h => nomatch h⟩⟩⟩
      · intro ρ h _ hp
        obtain ⟨c1, c2, _⟩ := Eq.mp (rw_1_pc0 ρ) hp
        simp only [Bool.not_eq_true', Bool.and_eq_false_iff, decide_eq_false_iff_not, decide_eq_true_eq] at c1 c2
        refine .inr (.inr ⟨rfl, List.forall_mem_cons.2 ⟨fit_const _ _, fun _ h => nomatch h⟩, [.int .i64 ⟨.c 1, 1, 1⟩], by kernel_rfl, fun b => ?_⟩)
        rw [h.bad (by omega) c2]
        rfl
      · intro ρ h _ hp
        obtain ⟨c1, c2, _⟩ := Eq.mp (rw_1_pc1 ρ) hp
        simp only [Bool.and_eq_true, decide_eq_true_eq] at c1 c2
        refine .inl ⟨rfl, rfl, h.next rfl rfl (by omega) c2, ?_⟩
        have h1 := h.hi
        have h3 := h.one.len
        show (g.n - (ρ.iv 13 + 1)).toNat < (g.n - ρ.iv 13).toNat
        omega
      · intro ρ h _ hp
        obtain ⟨c1, _⟩ := Eq.mp (rw_1_pc2 ρ) hp
        exact .inr (.inl ⟨rfl, rfl, ⟨⟨h.one.std.sub _, h.one.len, h.one.small⟩, h.lo, h.hi, h.all⟩, h.done (of_decide_eq_true c1)⟩))
    (by
      refine List.forall_mem_cons.2 ⟨?_, fun _ h => nomatch h⟩
      intro ρ h _ hp
      refine ⟨.inr rfl, List.forall_mem_cons.2 ⟨fit_const _ _, fun _ h => nomatch h⟩, [.int .i64 ⟨.c 0, 0, 0⟩], by kernel_rfl, fun b => ?_⟩
      rw [pworth_ok h.all]
      rfl)
    h0 ⟨fun _ => 0, fun _ => 0, fun _ => 0⟩ w (noHeap _ _ _ _) ⟨s1, trivial⟩ hm
  have e : SV.denL ρ0 ⟨fun _ => 0, fun _ => 0, fun _ => 0⟩ rwArgs = [.slice g.A g.n g.c] := by
    unfold rwArgs
    simp only [SV.denL]
    rw [s2]
  rw [e] at key
  exact key
end Go.Proofs.Ytdfpenjhpemokaa.Sx
/-
  Lines: what the names of their functions stand for; contracts of functions of one list.
-/
namespace Go.Proofs.Ytdfpenjhpemokaa.Sx
open Go.RowKit

def pnofall (f : Nat → Int) : Nat → Bool
  | 0 => true
  | 1 => true
  | n + 2 => pnofall f (n + 1) && decide (f n ≤ f (n + 1))
def pgain (f : Nat → Int) : Nat → Bool
  | 0 => true
  | n + 1 => pgain f n && decide (0 ≤ f n ∧ f n ≤ 65536)
def phrule (lo hi tu bu mo pl : Int) (ga : Bool) : Int := if (-100000 ≤ lo ∧ lo ≤ 100000) ∧ (-100000 ≤ hi ∧ hi ≤ 100000) ∧ (0 ≤ tu ∧ tu ≤ 1000) ∧ (0 ≤ bu ∧ bu ≤ 65536) ∧ (1 ≤ mo ∧ mo ≤ 4000) then (if hi < lo then 3 else if pl = 0 then (if ga = true then 0 else 1) else pl) else 1
def lnF (G : Nat → GD) (id : Nat) (l : List Int) : Int := match id, l with
  | 50, [n, d] => pup2 n d
  | 60, [k] => pworth (G k.toNat).f (G k.toNat).n
  | 61, [k] => prising (G k.toNat).f (G k.toNat).n
  | 62, [k, m] => pline (G k.toNat).f (G k.toNat).n (G m.toNat).f (G m.toNat).n
  | 63, [k, x] => ppc (G k.toNat).f x ((G k.toNat).n - 2) 0
  | 66, [lo, hi, tu, bu, mo, k, m] => phrule lo hi tu bu mo (pline (G k.toNat).f (G k.toNat).n (G m.toNat).f (G m.toNat).n) (pgain (G m.toNat).f (G m.toNat).n)
  | 67, [a, b] => pmul a b
  | 64, [k, m, x] => plook (G k.toNat).f (G m.toNat).f (G k.toNat).n x
  | _, _ => 0
def lnB (G : Nat → GD) (id : Nat) (l : List Int) : Bool := match id, l with
  | 65, [k, m] => decide (pline (G k.toNat).f (G k.toNat).n (G m.toNat).f (G m.toNat).n = 0) && pnofall (G m.toNat).f (G m.toNat).n
  | _, _ => false
def GD.none1 : GD := ⟨Option.none, 0, 0, [true], fun _ _ => 0, fun _ _ => false⟩
theorem GD.none1_ok (w : World) : GD.none1.ok w := ⟨by decide, fun _ _ h => absurd h (Nat.not_lt_zero _), fun _ _ => (by show B64 0; unfold B64; omega)⟩
def lone (g : GD) : Nat → GD := fun k => match k with | 0 => g | _ => GD.none1
theorem lone_ok {g : GD} {w : World} (o : g.ok w) : ∀ k, (lone g k).ok w := fun k => by
  match k with
  | 0 => exact o
  | k + 1 => exact GD.none1_ok w
theorem lone_ks {g : GD} (hk : g.ks = [true]) : ∀ k, (lone g k).ks = [true] := fun k => by
  match k with
  | 0 => exact hk
  | k + 1 => rfl
def ltwo (g h : GD) : Nat → GD := fun k => match k with | 0 => g | 1 => h | _ => GD.none1
structure LOne (g : GD) (ρ : Env) : Prop where
  std : Std lnF lnB (lone g) ρ
  len : ρ.iv 4 = g.n
  small : g.n ≤ 1000
theorem LOne.same {g : GD} {ρ ρ' : Env} (h : LOne g ρ) (hs : Same ρ ρ' [] []) : LOne g ρ' := ⟨h.std.same hs, (iv_same hs rfl).trans h.len, h.small⟩
theorem LOne.el {g : GD} {ρ : Env} (h : LOne g ρ) (i : Int) : ρ.fn 1000 [i] = g.f i.toNat := h.std.e (k := 0) (j := 0) rfl i
theorem lone_start {g : GD} {w : World} (o : g.ok w) (hk : g.ks = [true]) (hn : g.n ≤ 1000) (x : Int) (b : Bd) : ∃ ρ, LOne g ρ ∧ ρ.iv 5 = x ∧ Mem ρ (· < w.heap.size) w ∧ (SV.osl 0 [.int .i64 (-9223372036854775808) 9223372036854775807] ⟨.v 4, 0, 1000⟩).ok ρ (· < 0) ∧ (SV.osl 0 [.int .i64 (-9223372036854775808) 9223372036854775807] ⟨.v 4, 0, 1000⟩).den ρ b = .slice g.A g.n g.c := by
  obtain ⟨⟨q1, q2, q3, q4⟩, q5⟩ := gen_osl (et := 23) (iv := fun n => match n with | 4 => g.n | 5 => x | _ => 0) (bv := fun _ => false) (fn := lnF (lone g)) (fb := lnB (lone g)) (fl := fun _ _ => []) (lone_ok o) (k := 0) (m := 4) (sh := [.int .i64 (-9223372036854775808) 9223372036854775807]) (by show g.ks.map ckOf = _; rw [hk]; rfl) rfl (by show g.ks.length ≤ 100; rw [hk]; decide) (· < 0) b
  exact ⟨genEnv 23 (fun n => match n with | 4 => g.n | 5 => x | _ => 0) (fun _ => false) (lnF (lone g)) (lnB (lone g)) (fun _ _ => []) (lone g), ⟨Std.gen () _ _ _, rfl, hn⟩, rfl, gen_mem (lone_ok o), ⟨⟨q1.1, by show (g.n : Int) ≤ 1000; omega⟩, by decide, q3, q4⟩, q5⟩

def unP (id : Nat) (mk : R → SV) (args : List SV) : Option (List E × SV) := match args with
  | [.osl k [.int .i64 _ _] len] => if len.hi ≤ 1000 then some ([], mk ⟨.ap id (.cons (.c k) .nil), 0, 5⟩) else none
  | _ => none
theorem unP_ok {P : Program} {F : FuncId} {fn : (Nat → GD) → Nat → List Int → Int} {fb : (Nat → GD) → Nat → List Int → Bool} {G : Nat → GD} {ρ : Env} (h : Std fn fb G ρ) {w0 : World} (hG : ∀ k, (G k).ok w0) (hks : ∀ k, (G k).ks = [true]) {id : Nat} (hid : Nat.blt id 1000 = true) {mk : R → SV} {mv : Int → Value} {φ : GD → Int}
    (hφ : ∀ k, fn G id [k] = φ (G k.toNat)) (hb : ∀ g, 0 ≤ φ g ∧ φ g ≤ 5) (hmk : ∀ r b, (mk r).den ρ b = mv (r.e.i ρ)) (hmo : ∀ r N, r.ok ρ → (mk r).ok ρ N)
    (hc : ∀ g w, g.ks = [true] → g.n ≤ 1000 → g.ok w → Calls P F #[.slice g.A g.n g.c] w fun e w' => e = .returned (mv (φ g)) ∧ Below w.heap.size w w') : HOK P ρ (argSum F (unP id mk)) := by
  refine argSum_ok fun args gs v hp hg b base w N hok hm hbase => ?_
  unfold unP at hp
  split at hp
  · rename_i k lo hi len
    split at hp
    · rename_i hl
      cases hp
      obtain ⟨h1, _⟩ := hok
      have hn : (G k).n ≤ 1000 := by
        have e := h1.2.2.2
        rw [h.ol] at e
        have := h1.1.2
        simp only at e
        omega
      have e1 : (SV.denL ρ b [.osl k [.int .i64 lo hi] len]).toArray = #[.slice (G k).A (G k).n (G k).c] := by
        simp only [SV.denL]
        rw [h.slice h1]
      rw [e1]
      refine (hc (G k) w (hks k) hn (h.row hG hm hbase k)).mono ?_
      rintro e w' ⟨h2, h3⟩
      have e2 : (E.ap id (.cons (.c k) .nil)).i ρ = φ (G k) := by
        simp only [E.i, E.l]
        rw [h.f hid, hφ, Int.toNat_natCast]
      refine ⟨by rw [h2, hmk, e2], hmo _ _ ?_, h3⟩
      unfold R.ok
      rw [e2]
      exact hb (G k)
    · cases hp
  · cases hp
theorem pworth_bd (f : Nat → Int) (n : Nat) : 0 ≤ pworth f n ∧ pworth f n ≤ 5 := by
  by_cases h : ∀ k, k < n → -1000000 ≤ f k ∧ f k ≤ 1000000
  · rw [pworth_ok h]; omega
  · obtain ⟨k, hk⟩ := Classical.not_forall.1 h
    obtain ⟨hk, hx⟩ := Classical.not_imp.1 hk
    rw [pworth_bad hk hx]; omega
def trSum : Handler := argSum 151 (unP 60 .err)
def rrSum : Handler := argSum 147 (unP 60 (.int .i64))
theorem tr_sum {G : Nat → GD} {ρ : Env} (h : Std lnF lnB G ρ) {w0 : World} (hG : ∀ k, (G k).ok w0) (hks : ∀ k, (G k).ks = [true]) : HOK Try.prog ρ trSum :=
  unP_ok h hG hks rfl (mv := errV) (φ := fun g => pworth g.f g.n) (fun k => rfl) (fun g => pworth_bd _ _) (fun r b => err_mk ρ h.et r b) (fun r N hr => hr) fun g w hk hn o => tableWorth g hk hn w o
theorem rr_sum {G : Nat → GD} {ρ : Env} (h : Std lnF lnB G ρ) {w0 : World} (hG : ∀ k, (G k).ok w0) (hks : ∀ k, (G k).ks = [true]) : HOK Try.prog ρ rrSum :=
  unP_ok h hG hks rfl (mv := fun z => .int .i64 z) (φ := fun g => pworth g.f g.n) (fun k => rfl) (fun g => pworth_bd _ _) (fun r b => rfl) (fun r N hr => hr) fun g w hk hn o => refWorth g hk hn w o
end Go.Proofs.Ytdfpenjhpemokaa.Sx
