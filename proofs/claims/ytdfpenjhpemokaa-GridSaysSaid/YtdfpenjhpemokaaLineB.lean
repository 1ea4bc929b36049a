/-
  Lists that rise, and pieces of lines: the program's and the reference's answers.
-/
import Derived.Test.YtdfpenjhpemokaaLineRun
set_option linter.unusedVariables false
set_option linter.unusedSimpArgs false
namespace Go.Proofs.Ytdfpenjhpemokaa.Sx
open Go.RowKit

structure RiseI (g : GD) (ρ : Env) : Prop where
  one : LOne g ρ
  lo : 1 ≤ ρ.iv 13
  hi : ρ.iv 13 ≤ g.n
  n2 : 2 ≤ g.n
  n8 : g.n ≤ 8
  w : WorthAll g.f g.n
  all : RiseAll g.f (ρ.iv 13).toNat
structure RiseI2 (g : GD) (ρ : Env) : Prop where
  i : RiseI g ρ
  all : RiseAll g.f g.n
theorem RiseI.same {g : GD} {ρ ρ' : Env} (h : RiseI g ρ) (hs : Same ρ ρ' [] []) : RiseI g ρ' ∧ (g.n - ρ'.iv 13).toNat = (g.n - ρ.iv 13).toNat := by
  have e := iv_same hs (n := 13) rfl
  exact ⟨⟨h.one.same hs, by rw [e]; exact h.lo, by rw [e]; exact h.hi, h.n2, h.n8, h.w, by rw [e]; exact h.all⟩, by rw [e]⟩
theorem rise_next {f : Nat → Int} {i : Int} (h1 : 1 ≤ i) (h : RiseAll f i.toNat) (c : f (i - 1).toNat < f i.toNat) : RiseAll f (i + 1).toNat := by
  intro k hk
  by_cases hk' : k + 1 < i.toNat
  · exact h k hk'
  · have e1 : (i - 1).toNat = k := by omega
    have e2 : i.toNat = k + 1 := by omega
    rw [e1, e2] at c
    exact c
structure PieceI (g : GD) (x : Int) (ρ : Env) : Prop where
  one : LOne g ρ
  ex : ρ.iv 5 = x
  lo : 0 ≤ ρ.iv 13
  hi : ρ.iv 13 ≤ 1000
  at_ : ppc g.f x (g.n - 2) 0 = ppc g.f x (g.n - 2 - (ρ.iv 13).toNat) (ρ.iv 13).toNat
  n : ρ.iv 13 + 2 ≤ g.n ∨ ρ.iv 13 = 0
structure PieceI2 (g : GD) (x : Int) (ρ : Env) : Prop where
  i : PieceI g x ρ
  end_ : ppc g.f x (g.n - 2) 0 = (ρ.iv 13).toNat
theorem PieceI.same {g : GD} {x : Int} {ρ ρ' : Env} (h : PieceI g x ρ) (hs : Same ρ ρ' [] []) : PieceI g x ρ' ∧ (1000 - ρ'.iv 13).toNat = (1000 - ρ.iv 13).toNat := by
  have e := iv_same hs (n := 13) rfl
  exact ⟨⟨h.one.same hs, (iv_same hs (n := 5) rfl).trans h.ex, by rw [e]; exact h.lo, by rw [e]; exact h.hi, by rw [e]; exact h.at_, by rw [e]; exact h.n⟩, by rw [e]⟩
structure RRiseI (g : GD) (ρ : Env) : Prop where
  one : LOne g ρ
  lo : 1 ≤ ρ.iv 13
  hi : ρ.iv 13 ≤ g.n ∨ ρ.iv 13 = 1
  all : ρ.bv 13 = true ↔ prise g.f (ρ.iv 13).toNat = 3
structure RRiseI2 (g : GD) (ρ : Env) : Prop where
  i : RRiseI g ρ
  all : ρ.bv 13 = true ↔ prise g.f g.n = 3
theorem RRiseI.same {g : GD} {ρ ρ' : Env} (h : RRiseI g ρ) (hs : Same ρ ρ' [] []) : RRiseI g ρ' ∧ (g.n - ρ'.iv 13).toNat = (g.n - ρ.iv 13).toNat := by
  have e := iv_same hs (n := 13) rfl
  have e' := bv_same hs (n := 13) rfl
  exact ⟨⟨h.one.same hs, by rw [e]; exact h.lo, by rw [e]; exact h.hi, by rw [e, e']; exact h.all⟩, by rw [e]⟩
structure LOneX (g : GD) (x : Int) (ρ : Env) : Prop where
  one : LOne g ρ
  x : ρ.iv 5 = x
theorem LOneX.same {g : GD} {x : Int} {ρ ρ' : Env} (h : LOneX g x ρ) (hs : Same ρ ρ' [] []) : LOneX g x ρ' := ⟨h.one.same hs, (iv_same hs (n := 5) rfl).trans h.x⟩
theorem ppc_step {f : Nat → Int} {x : Int} {d i : Nat} (c : f (i + 1) ≤ x) : ppc f x (d + 1) i = ppc f x d (i + 1) := if_pos c
theorem ppc_zero {f : Nat → Int} {x : Int} {i : Nat} : ppc f x 0 i = i := rfl
theorem ppc_stop {f : Nat → Int} {x : Int} {i : Nat} (c : ¬ f (i + 1) ≤ x) (d : Nat) : ppc f x d i = i := by
  cases d with
  | zero => rfl
  | succ d => exact if_neg c
theorem prise_step (f : Nat → Int) (n : Nat) : prise f (n + 2) = 3 ↔ (prise f (n + 1) = 3 ∨ f (n + 1) ≤ f n) := by
  show por (prise f (n + 1)) (if f n < f (n + 1) then 0 else 3) = 3 ↔ _
  rcases prise_two f (n + 1) with h | h <;> rw [h] <;> unfold por <;> by_cases c : f n < f (n + 1) <;> simp [c] <;> omega
theorem prising_bd (f : Nat → Int) (n : Nat) : 0 ≤ prising f n ∧ prising f n ≤ 5 := by
  unfold prising por
  have h := pworth_bd f n
  rcases prise_two f n with h2 | h2 <;> rw [h2] <;> split <;> (try split) <;> (try split) <;> omega
theorem prising_2 {f : Nat → Int} {n : Nat} (h : n < 2) : prising f n = 3 := by unfold prising; rw [if_pos h]
theorem prising_8 {f : Nat → Int} {n : Nat} (h : 8 < n) : prising f n = 2 := by unfold prising; rw [if_neg (by omega), if_pos h]
theorem prising_w {f : Nat → Int} {n : Nat} (h1 : 2 ≤ n) (h2 : n ≤ 8) (hw : ¬ pworth f n = 0) : prising f n = pworth f n := by unfold prising por; rw [if_neg (by omega), if_neg (by omega), if_neg hw]
theorem prising_r {f : Nat → Int} {n : Nat} (h1 : 2 ≤ n) (h2 : n ≤ 8) (hw : pworth f n = 0) : prising f n = prise f n := by unfold prising por; rw [if_neg (by omega), if_neg (by omega), if_pos hw]
set_option maxRecDepth 100000 in
set_option maxHeartbeats 1000000 in
theorem tableRising (g : GD) (hk : g.ks = [true]) (hn : g.n ≤ 1000) (w : World) (o : g.ok w) :
    Calls Try.prog 150 #[.slice g.A g.n g.c] w fun e w' => e = .returned (errV (prising g.f g.n)) ∧ Below w.heap.size w w' := by
  obtain ⟨ρ0, h0, _, hm, s1, s2⟩ := lone_start o hk hn 0 ⟨fun _ => 0, fun _ => 0, fun _ => 0⟩
  have key := loop1_ret (P := Try.prog) (cfg := cfgK trSum trKeeps 50 12) Try.func150 rfl (k := 9) (i := 0) (n := 12) (by decide +kernel) (by kernel_rfl) (args := trArgs) (H := []) (nx := 0) tr_ran0 tr_defs0 tr_no0 tr_ran1 tr_defs1 tr_no1 tr_ran2 tr_defs2 tr_no2 (V := errV (prising g.f g.n)) (LOne g) (RiseI g) (RiseI2 g) (fun ρ => (g.n - ρ.iv 13).toNat)
    (fun ρ h => ⟨h.std.et, tr_sum h.std (lone_ok o) (lone_ks hk)⟩) (fun ρ h => ⟨h.one.std.et, tr_sum h.one.std (lone_ok o) (lone_ks hk)⟩) (fun ρ ρ' h hs => h.same hs) (fun ρ ρ' h hs => h.same hs) (fun ρ h => h.i) (fun ρ ρ' h hs => ⟨(h.i.same hs).1, h.all⟩) (by kernel_rfl)
    (fun ρ h => by
      have h1 := h.len
      have h2 := h.small
      refine List.forall_mem_cons.2 ⟨?_, fun _ h => nomatch h⟩
      · exact fit_of (z := ρ.iv 4) rfl (by show (0 : Int) ≤ ρ.iv 4; omega) (by show ρ.iv 4 ≤ 1000; omega))
    (fun ρ h => by
      have h1 := h.lo
      have h2 := h.hi
      have h3 := h.one.len
      have h4 := h.n2
      have h5 := h.n8
      refine List.forall_mem_cons.2 ⟨?_, List.forall_mem_cons.2 ⟨?_, fun _ h => nomatch h⟩⟩
      · exact fit_of (z := ρ.iv 13) rfl (by show (1 : Int) ≤ ρ.iv 13; omega) (by show ρ.iv 13 ≤ 8; omega)
      · exact fit_of (z := ρ.iv 4) rfl (by show (2 : Int) ≤ ρ.iv 4; omega) (by show ρ.iv 4 ≤ 8; omega))
    (fun ρ h hv => Eq.mpr (tr_w0 ρ) (by
      trivial))
    (fun ρ h hv => Eq.mpr (tr_w1 ρ) (by
      have h1 := h.lo
      have h2 := h.hi
      have h3 := h.one.len
      refine ⟨fun ⟨c, _⟩ => ?_, trivial⟩
      have c := of_decide_eq_true c
      exact decide_eq_true (by omega)))
    (fun ρ h hv => Eq.mpr (tr_w2 ρ) (by
      trivial))
    (by
      refine List.forall_mem_cons.2 ⟨?_, List.forall_mem_cons.2 ⟨?_, List.forall_mem_cons.2 ⟨?_, List.forall_mem_cons.2 ⟨?_, fun _ h => nomatch h⟩⟩⟩⟩
      · intro ρ h hv hp
        obtain ⟨c0, _⟩ := Eq.mp (tr_0_pc0 ρ) hp
        refine .inl ⟨rfl, List.forall_mem_cons.2 ⟨fit_const _ _, fun _ h => nomatch h⟩, [.ifc 23 (.int .i64 ⟨(.c 3), 3, 3⟩)], by kernel_rfl, fun b => ?_⟩
        have c := of_decide_eq_true c0
        have h1 := h.len
        rw [prising_2 (by omega)]
        rfl
      · intro ρ h hv hp
        obtain ⟨c0, c1, _⟩ := Eq.mp (tr_0_pc1 ρ) hp
        refine .inl ⟨rfl, List.forall_mem_cons.2 ⟨fit_const _ _, fun _ h => nomatch h⟩, [.ifc 23 (.int .i64 ⟨(.c 2), 2, 2⟩)], by kernel_rfl, fun b => ?_⟩
        have c := of_decide_eq_true c0
        have d := of_decide_eq_true c1
        have h1 := h.len
        rw [prising_8 (by omega)]
        rfl
      · intro ρ h hv hp
        obtain ⟨c0, c1, c2, _⟩ := Eq.mp (tr_0_pc2 ρ) hp
        refine .inl ⟨rfl, List.forall_mem_cons.2 ⟨?_, fun _ h => nomatch h⟩, [.ifc 23 (.int .i64 ⟨(.v 900), 1, 5⟩)], by kernel_rfl, fun b => ?_⟩
        · have e : ρ.fn 60 [0] = pworth g.f g.n := by rw [h.std.f rfl]; rfl
          rw [e] at c0
          have hb := pworth_bd g.f g.n
          have c0 : ¬ pworth g.f g.n = 0 := by simpa using c0
          exact fit_of (z := pworth g.f g.n) e (by show (1 : Int) ≤ _; omega) (by show _ ≤ (5 : Int); omega)
        · have e : ρ.fn 60 [0] = pworth g.f g.n := by rw [h.std.f rfl]; rfl
          rw [e] at c0
          have c0 : ¬ pworth g.f g.n = 0 := by simpa using c0
          have c := of_decide_eq_true c1
          have d := of_decide_eq_true c2
          have h1 := h.len
          show Value.iface 23 (.int .i64 (ρ.fn 60 [0])) = _
          rw [e, prising_w (by omega) (by omega) c0, errV, if_neg c0]
      · intro ρ h hv hp
        obtain ⟨c0, c1, c2, _⟩ := Eq.mp (tr_0_pc3 ρ) hp
        refine .inr ⟨rfl, rfl, ?_⟩
        have e : ρ.fn 60 [0] = pworth g.f g.n := by rw [h.std.f rfl]; rfl
        rw [e] at c0
        have c0 : pworth g.f g.n = 0 := by simpa using c0
        have c := of_decide_eq_true c1
        have d := of_decide_eq_true c2
        have h1 := h.len
        exact ⟨⟨h.std.sub _, h.len, h.small⟩, Int.le_refl _, by show (1 : Int) ≤ g.n; omega, by omega, by omega, pworth_iff.1 c0, fun k hk => absurd hk (by show ¬ k + 1 < 1; omega)⟩)
    (by
      refine List.forall_mem_cons.2 ⟨?_, List.forall_mem_cons.2 ⟨?_, List.forall_mem_cons.2 ⟨?_, fun _ h => nomatch h⟩⟩⟩
      · intro ρ h hv hp
        obtain ⟨c0, c1, _⟩ := Eq.mp (tr_1_pc0 ρ) hp
        refine .inr (.inr ⟨rfl, List.forall_mem_cons.2 ⟨fit_const _ _, fun _ h => nomatch h⟩, [.ifc 23 (.int .i64 ⟨(.c 3), 3, 3⟩)], by kernel_rfl, fun b => ?_⟩)
        have c := of_decide_eq_true c0
        have d := of_decide_eq_true c1
        have h1 := h.lo
        have h2 := h.hi
        have h3 := h.one.len
        have h4 := h.n2
        have h5 := h.n8
        rw [h.one.el, h.one.el] at c
        have e : ((ρ.iv 13 - 1).toNat) + 1 = (ρ.iv 13).toNat := by omega
        rw [prising_r h4 h5 (pworth_ok h.w), prise_bad (k := (ρ.iv 13 - 1).toNat) (by omega) (by rw [e]; omega)]
        rfl
      · intro ρ h hv hp
        obtain ⟨c0, c1, _⟩ := Eq.mp (tr_1_pc1 ρ) hp
        refine .inl ⟨rfl, rfl, ?_, ?_⟩
        · have c := of_decide_eq_true c0
          have d := of_decide_eq_true c1
          have h1 := h.lo
          have h2 := h.hi
          have h3 := h.one.len
          rw [h.one.el, h.one.el] at c
          exact ⟨⟨h.one.std.sub _, h.one.len, h.one.small⟩, by show 1 ≤ ρ.iv 13 + 1; omega, by show ρ.iv 13 + 1 ≤ g.n; omega, h.n2, h.n8, h.w, rise_next h1 h.all c⟩
        · have d := of_decide_eq_true c1
          have h3 := h.one.len
          show (g.n - (ρ.iv 13 + 1)).toNat < (g.n - ρ.iv 13).toNat
          omega
      · intro ρ h hv hp
        obtain ⟨c0, _⟩ := Eq.mp (tr_1_pc2 ρ) hp
        refine .inr (.inl ⟨rfl, rfl, ?_⟩)
        have d := of_decide_eq_true c0
        have h2 := h.hi
        have h3 := h.one.len
        have e : (ρ.iv 13).toNat = g.n := by omega
        exact ⟨⟨⟨h.one.std.sub _, h.one.len, h.one.small⟩, h.lo, h.hi, h.n2, h.n8, h.w, h.all⟩, by rw [← e]; exact h.all⟩)
    (by
      refine List.forall_mem_cons.2 ⟨?_, fun _ h => nomatch h⟩
      · intro ρ h hv hp
        refine ⟨.inr rfl, (fun _ h => nomatch h), [.nili], by kernel_rfl, fun b => ?_⟩
        have h4 := h.i.n2
        have h5 := h.i.n8
        rw [prising_r h4 h5 (pworth_ok h.i.w), prise_ok h.all]
        rfl)
    h0 ⟨fun _ => 0, fun _ => 0, fun _ => 0⟩ w (noHeap _ _ _ _) ⟨s1, trivial⟩ hm
  have e : SV.denL ρ0 ⟨fun _ => 0, fun _ => 0, fun _ => 0⟩ trArgs = [.slice g.A g.n g.c] := by
    unfold trArgs
    simp only [SV.denL]
    rw [s2]
  rw [e] at key
  exact key
set_option maxRecDepth 100000 in
set_option maxHeartbeats 1000000 in
theorem tablePiece (g : GD) (hk : g.ks = [true]) (hn : g.n ≤ 1000) (x : Int) (hx : B64 x) (w : World) (o : g.ok w) :
    Calls Try.prog 153 #[.slice g.A g.n g.c, .int .i64 x] w fun e w' => e = .returned (.int .i64 (ppc g.f x (g.n - 2) 0)) ∧ Below w.heap.size w w' := by
  obtain ⟨ρ0, h0, hx0, hm, s1, s2⟩ := lone_start o hk hn x ⟨fun _ => 0, fun _ => 0, fun _ => 0⟩
  have key := loop1_ret (P := Try.prog) (cfg := cfgK noSum tpKeeps 50 12) Try.func153 rfl (k := 2) (i := 0) (n := 5) (by decide +kernel) (by kernel_rfl) (args := tpArgs) (H := []) (nx := 0) tp_ran0 tp_defs0 tp_no0 tp_ran1 tp_defs1 tp_no1 tp_ran2 tp_defs2 tp_no2 (V := .int .i64 (ppc g.f x (g.n - 2) 0)) (LOneX g x) (PieceI g x) (PieceI2 g x) (fun ρ => (1000 - ρ.iv 13).toNat)
    (fun ρ h => ⟨h.one.std.et, noSum_ok _ _⟩) (fun ρ h => ⟨h.one.std.et, noSum_ok _ _⟩) (fun ρ ρ' h hs => h.same hs) (fun ρ ρ' h hs => h.same hs) (fun ρ h => h.i) (fun ρ ρ' h hs => ⟨(h.i.same hs).1, by rw [iv_same hs (n := 13) rfl]; exact h.end_⟩) (by kernel_rfl)
    (fun ρ h => by
      have h1 := h.one.len
      have h2 := h.one.small
      have h3 := h.x
      have h4 := hx.1
      have h5 := hx.2
      refine List.forall_mem_cons.2 ⟨?_, List.forall_mem_cons.2 ⟨?_, fun _ h => nomatch h⟩⟩
      · exact fit_of (z := ρ.iv 4) rfl (by show (0 : Int) ≤ ρ.iv 4; omega) (by show ρ.iv 4 ≤ 1000; omega)
      · exact fit_of (z := ρ.iv 5) rfl (by show (-9223372036854775808 : Int) ≤ ρ.iv 5; omega) (by show ρ.iv 5 ≤ 9223372036854775807; omega))
    (fun ρ h => by
      have h1 := h.lo
      have h2 := h.hi
      have h3 := h.one.len
      have h4 := h.one.small
      have h5 := h.ex
      have h6 := hx.1
      have h7 := hx.2
      refine List.forall_mem_cons.2 ⟨?_, List.forall_mem_cons.2 ⟨?_, List.forall_mem_cons.2 ⟨?_, fun _ h => nomatch h⟩⟩⟩
      · exact fit_of (z := ρ.iv 13) rfl (by show (0 : Int) ≤ ρ.iv 13; omega) (by show ρ.iv 13 ≤ 1000; omega)
      · exact fit_of (z := ρ.iv 4) rfl (by show (0 : Int) ≤ ρ.iv 4; omega) (by show ρ.iv 4 ≤ 1000; omega)
      · exact fit_of (z := ρ.iv 5) rfl (by show (-9223372036854775808 : Int) ≤ ρ.iv 5; omega) (by show ρ.iv 5 ≤ 9223372036854775807; omega))
    (fun ρ h hv => Eq.mpr (tp_w0 ρ) (by
      trivial))
    (fun ρ h hv => Eq.mpr (tp_w1 ρ) (by
      have h1 := h.lo
      have h3 := h.one.len
      refine ⟨fun ⟨c, _⟩ => ?_, trivial⟩
      have c := of_decide_eq_true c
      exact decide_eq_true (by omega)))
    (fun ρ h hv => Eq.mpr (tp_w2 ρ) (by
      trivial))
    (by
      refine List.forall_mem_cons.2 ⟨?_, fun _ h => nomatch h⟩
      · intro ρ h hv hp
        refine .inr ⟨rfl, rfl, ?_⟩
        exact ⟨⟨h.one.std.sub _, h.one.len, h.one.small⟩, h.x, Int.le_refl _, by show (0 : Int) ≤ 1000; omega, rfl, .inr rfl⟩)
    (by
      refine List.forall_mem_cons.2 ⟨?_, List.forall_mem_cons.2 ⟨?_, fun _ h => nomatch h⟩⟩
      · intro ρ h hv hp
        obtain ⟨c0, _⟩ := Eq.mp (tp_1_pc0 ρ) hp
        refine .inl ⟨rfl, rfl, ?_, ?_⟩
        · simp only [Bool.and_eq_true, decide_eq_true_eq] at c0
          obtain ⟨c1, c2⟩ := c0
          have h1 := h.lo
          have h3 := h.one.len
          have h4 := h.one.small
          rw [h.one.el, h.ex] at c2
          refine ⟨⟨h.one.std.sub _, h.one.len, h.one.small⟩, h.ex, by show 0 ≤ ρ.iv 13 + 1; omega, by show ρ.iv 13 + 1 ≤ 1000; omega, ?_, .inl (by show ρ.iv 13 + 1 + 2 ≤ g.n; omega)⟩
          show _ = ppc g.f x (g.n - 2 - (ρ.iv 13 + 1).toNat) (ρ.iv 13 + 1).toNat
          rw [h.at_]
          have e : (ρ.iv 13 + 1).toNat = (ρ.iv 13).toNat + 1 := by omega
          have e2 : g.n - 2 - (ρ.iv 13).toNat = (g.n - 2 - (ρ.iv 13 + 1).toNat) + 1 := by omega
          rw [e] at c2 e2 ⊢
          rw [e2, ppc_step c2]
        · simp only [Bool.and_eq_true, decide_eq_true_eq] at c0
          have h3 := h.one.len
          have h4 := h.one.small
          show (1000 - (ρ.iv 13 + 1)).toNat < (1000 - ρ.iv 13).toNat
          omega
      · intro ρ h hv hp
        obtain ⟨c0, _⟩ := Eq.mp (tp_1_pc1 ρ) hp
        refine .inr (.inl ⟨rfl, rfl, ?_⟩)
        have h1 := h.lo
        have h3 := h.one.len
        refine ⟨⟨⟨h.one.std.sub _, h.one.len, h.one.small⟩, h.ex, h.lo, h.hi, h.at_, h.n⟩, ?_⟩
        rw [h.at_]
        show ppc g.f x (g.n - 2 - (ρ.iv 13).toNat) (ρ.iv 13).toNat = (ρ.iv 13).toNat
        by_cases hc : ρ.iv 13 + 2 < g.n
        · have c2 : ¬ g.f ((ρ.iv 13).toNat + 1) ≤ x := by
            intro hle
            have e : (ρ.iv 13 + 1).toNat = (ρ.iv 13).toNat + 1 := by omega
            rw [h.one.el, h.ex, e, h3] at c0
            simp [hc, hle] at c0
          exact ppc_stop c2 _
        · have e : g.n - 2 - (ρ.iv 13).toNat = 0 := by omega
          rw [e, ppc_zero])
    (by
      refine List.forall_mem_cons.2 ⟨?_, fun _ h => nomatch h⟩
      · intro ρ h hv hp
        refine ⟨.inr rfl, List.forall_mem_cons.2 ⟨?_, fun _ h => nomatch h⟩, [.int .i64 ⟨(.v 900), 0, 1000⟩], by kernel_rfl, fun b => ?_⟩
        · have h1 := h.i.lo
          have h2 := h.i.hi
          exact fit_of (z := ρ.iv 13) rfl (by show (0 : Int) ≤ ρ.iv 13; omega) (by show ρ.iv 13 ≤ 1000; omega)
        · have h1 := h.i.lo
          rw [h.end_]
          show Value.int .i64 (ρ.iv 13) = .int .i64 ((ρ.iv 13).toNat : Int)
          rw [Int.toNat_of_nonneg h1])
    ⟨h0, hx0⟩ ⟨fun _ => 0, fun _ => 0, fun _ => 0⟩ w (noHeap _ _ _ _) ⟨s1, ⟨by show _ ≤ ρ0.iv 5; rw [hx0]; exact hx.1, by show ρ0.iv 5 ≤ _; rw [hx0]; exact hx.2⟩, trivial⟩ hm
  have e : SV.denL ρ0 ⟨fun _ => 0, fun _ => 0, fun _ => 0⟩ tpArgs = [.slice g.A g.n g.c, .int .i64 x] := by
    unfold tpArgs
    simp only [SV.denL]
    rw [s2]
    simp only [SV.den, E.i, hx0]
  rw [e] at key
  exact key
set_option maxRecDepth 100000 in
set_option maxHeartbeats 1000000 in
theorem refRising (g : GD) (hk : g.ks = [true]) (hn : g.n ≤ 1000) (w : World) (o : g.ok w) :
    Calls Try.prog 146 #[.slice g.A g.n g.c] w fun e w' => e = .returned (.int .i64 (prising g.f g.n)) ∧ Below w.heap.size w w' := by
  obtain ⟨ρ0, h0, _, hm, s1, s2⟩ := lone_start o hk hn 0 ⟨fun _ => 0, fun _ => 0, fun _ => 0⟩
  have key := loop1_ret (P := Try.prog) (cfg := cfgK rrSum rrKeeps 50 12) Try.func146 rfl (k := 3) (i := 0) (n := 6) (by decide +kernel) (by kernel_rfl) (args := rrArgs) (H := []) (nx := 0) rr_ran0 rr_defs0 rr_no0 rr_ran1 rr_defs1 rr_no1 rr_ran2 rr_defs2 rr_no2 (V := .int .i64 (prising g.f g.n)) (LOne g) (RRiseI g) (RRiseI2 g) (fun ρ => (g.n - ρ.iv 13).toNat)
    (fun ρ h => ⟨h.std.et, rr_sum h.std (lone_ok o) (lone_ks hk)⟩) (fun ρ h => ⟨h.one.std.et, rr_sum h.one.std (lone_ok o) (lone_ks hk)⟩) (fun ρ ρ' h hs => h.same hs) (fun ρ ρ' h hs => h.same hs) (fun ρ h => h.i) (fun ρ ρ' h hs => ⟨(h.i.same hs).1, by rw [bv_same hs (n := 13) rfl]; exact h.all⟩) (by kernel_rfl)
    (fun ρ h => by
      have h1 := h.len
      have h2 := h.small
      refine List.forall_mem_cons.2 ⟨?_, fun _ h => nomatch h⟩
      · exact fit_of (z := ρ.iv 4) rfl (by show (0 : Int) ≤ ρ.iv 4; omega) (by show ρ.iv 4 ≤ 1000; omega))
    (fun ρ h => by
      have h1 := h.lo
      have h2 := h.hi
      have h3 := h.one.len
      have h4 := h.one.small
      refine List.forall_mem_cons.2 ⟨?_, List.forall_mem_cons.2 ⟨?_, fun _ h => nomatch h⟩⟩
      · exact fit_of (z := ρ.iv 13) rfl (by show (1 : Int) ≤ ρ.iv 13; omega) (by show ρ.iv 13 ≤ 1000; omega)
      · exact fit_of (z := ρ.iv 4) rfl (by show (0 : Int) ≤ ρ.iv 4; omega) (by show ρ.iv 4 ≤ 1000; omega))
    (fun ρ h hv => Eq.mpr (rr_w0 ρ) (by
      trivial))
    (fun ρ h hv => Eq.mpr (rr_w1 ρ) (by
      have h1 := h.lo
      have h2 := h.hi
      have h3 := h.one.len
      refine ⟨fun ⟨c, d, _⟩ => ?_, trivial⟩
      have d := of_decide_eq_true d
      exact decide_eq_true (by omega)))
    (fun ρ h hv => Eq.mpr (rr_w2 ρ) (by
      trivial))
    (by
      refine List.forall_mem_cons.2 ⟨?_, fun _ h => nomatch h⟩
      · intro ρ h hv hp
        refine .inr ⟨rfl, rfl, ?_⟩
        exact ⟨⟨h.std.sub _, h.len, h.small⟩, Int.le_refl _, .inr rfl, ⟨fun hc => (by cases hc), fun hc => (by
          have : prise g.f 1 = 3 := hc
          simp [prise] at this)⟩⟩)
    (by
      refine List.forall_mem_cons.2 ⟨?_, List.forall_mem_cons.2 ⟨?_, fun _ h => nomatch h⟩⟩
      · intro ρ h hv hp
        obtain ⟨c0, _⟩ := Eq.mp (rr_1_pc0 ρ) hp
        refine .inl ⟨rfl, rfl, ?_, ?_⟩
        · have d := of_decide_eq_true c0
          have h1 := h.lo
          have h2 := h.hi
          have h3 := h.one.len
          refine ⟨⟨h.one.std.sub _, h.one.len, h.one.small⟩, by show 1 ≤ ρ.iv 13 + 1; omega, .inl (by show ρ.iv 13 + 1 ≤ g.n; omega), ?_⟩
          show (ρ.bv 13 || decide (ρ.fn 1000 [ρ.iv 13] ≤ ρ.fn 1000 [ρ.iv 13 - 1])) = true ↔ prise g.f (ρ.iv 13 + 1).toNat = 3
          rw [h.one.el, h.one.el, Bool.or_eq_true, h.all, decide_eq_true_eq]
          have e : (ρ.iv 13 + 1).toNat = (ρ.iv 13 - 1).toNat + 2 := by omega
          have e2 : (ρ.iv 13).toNat = (ρ.iv 13 - 1).toNat + 1 := by omega
          rw [e, e2]
          exact (prise_step g.f _).symm
        · have d := of_decide_eq_true c0
          have h3 := h.one.len
          show (g.n - (ρ.iv 13 + 1)).toNat < (g.n - ρ.iv 13).toNat
          omega
      · intro ρ h hv hp
        obtain ⟨c0, _⟩ := Eq.mp (rr_1_pc1 ρ) hp
        refine .inr (.inl ⟨rfl, rfl, ?_⟩)
        have d := of_decide_eq_true c0
        have h1 := h.lo
        have h2 := h.hi
        have h3 := h.one.len
        refine ⟨⟨⟨h.one.std.sub _, h.one.len, h.one.small⟩, h.lo, h.hi, h.all⟩, ?_⟩
        show ρ.bv 13 = true ↔ _
        rw [h.all]
        rcases h2 with h2 | h2
        · have e : (ρ.iv 13).toNat = g.n := by omega
          rw [e]
        · have hn : g.n = 0 ∨ g.n = 1 := by omega
          rw [h2]
          rcases hn with hn | hn <;> rw [hn] <;> simp [prise])
    (by
      refine List.forall_mem_cons.2 ⟨?_, fun _ h => nomatch h⟩
      · intro ρ h hv hp
        obtain ⟨h0, _⟩ := Eq.mp (rr_says2 ρ) hv
        have e60 : ρ.fn 60 [0] = pworth g.f g.n := by rw [h.i.one.std.f rfl]; rfl
        rw [e60, h.i.one.len] at h0
        have hy : ρ.iv 792717386363595369 = prising g.f g.n := by
          rw [h0, prising]
          have hb := h.all
          by_cases c1 : g.n < 2
          · have a1 : decide ((g.n : Int) < 2) = true := decide_eq_true (by omega)
            simp [a1, c1]
          · have a1 : decide ((g.n : Int) < 2) = false := decide_eq_false (by omega)
            by_cases c2 : 8 < g.n
            · have a2 : decide ((8 : Int) < (g.n : Int)) = true := decide_eq_true (by omega)
              simp [a1, a2, c1, c2]
            · have a2 : decide ((8 : Int) < (g.n : Int)) = false := decide_eq_false (by omega)
              rcases prise_two g.f g.n with hp2 | hp2
              · have hb' : ρ.bv 13 = false := by
                  cases hbv : ρ.bv 13 with
                  | false => rfl
                  | true => have := hb.1 hbv; rw [hp2] at this; cases this
                rw [hp2, hb']
                simp only [a1, a2, c1, c2, por, if_false, if_true, Bool.false_eq_true, decide_true, Bool.not_true, Bool.not_eq_true', decide_eq_false_iff_not]
                split <;> simp_all
              · have hb' : ρ.bv 13 = true := hb.2 hp2
                rw [hp2, hb']
                simp only [a1, a2, c1, c2, por, if_false, if_true, Bool.false_eq_true, decide_true, Bool.not_true, Bool.not_eq_true', decide_eq_false_iff_not]
                split <;> simp_all
        refine ⟨.inr rfl, List.forall_mem_cons.2 ⟨?_, fun _ h => nomatch h⟩, [.int .i64 ⟨(.v 900), 0, 5⟩], by kernel_rfl, fun b => ?_⟩
        · exact fit_of (z := ρ.iv 792717386363595369) rfl (by show (0 : Int) ≤ _; rw [hy]; exact (prising_bd _ _).1) (by show _ ≤ (5 : Int); rw [hy]; exact (prising_bd _ _).2)
        · show Value.int .i64 (ρ.iv 792717386363595369) = _
          rw [hy])
    h0 ⟨fun _ => 0, fun _ => 0, fun _ => 0⟩ w (noHeap _ _ _ _) ⟨s1, trivial⟩ hm
  have e : SV.denL ρ0 ⟨fun _ => 0, fun _ => 0, fun _ => 0⟩ rrArgs = [.slice g.A g.n g.c] := by
    unfold rrArgs
    simp only [SV.denL]
    rw [s2]
  rw [e] at key
  exact key
end Go.Proofs.Ytdfpenjhpemokaa.Sx
