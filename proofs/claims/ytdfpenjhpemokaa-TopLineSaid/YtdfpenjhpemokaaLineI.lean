/-
  Lines: contracts of functions of one list and a number, of lines.
-/
import Derived.Test.YtdfpenjhpemokaaLineB
import Derived.Test.YtdfpenjhpemokaaNum
set_option linter.unusedVariables false
set_option linter.unusedSimpArgs false
namespace Go.Proofs.Ytdfpenjhpemokaa.Sx
open Go.RowKit

def biP (id : Nat) (mk : R → SV) (args : List SV) : Option (List E × SV) := match args with
  | [.agg [.osl k [.int .i64 _ _] len, .osl m [.int .i64 _ _] len']] => if len.hi ≤ 1000 ∧ len'.hi ≤ 1000 then some ([], mk ⟨.ap id (.cons (.c k) (.cons (.c m) .nil)), 0, 5⟩) else none
  | _ => none
def pieceP (args : List SV) : Option (List E × SV) := match args with
  | [.osl k [.int .i64 _ _] len, .int .i64 x] => if len.hi ≤ 1000 ∧ -9223372036854775808 ≤ x.lo ∧ x.hi ≤ 9223372036854775807 then some ([], .int .i64 ⟨.ap 63 (.cons (.c k) (.cons x.e .nil)), 0, 1000⟩) else none
  | _ => none
def nearP (args : List SV) : Option (List E × SV) := match args with
  | [.int .i64 n, .int .i64 d] => some ([.bin .lt (.c 0) d.e, .bin .le d.e (.c 4000000000000), .bin .le (.c (-4400000000000000000)) n.e, .bin .le n.e (.c 4400000000000000000)], .int .i64 ⟨.ap 50 (.cons n.e (.cons d.e .nil)), -9000000000000000000, 9000000000000000000⟩)
  | _ => none
theorem den_agg (ρ : Env) (b : Bd) (l : List SV) : (SV.agg l).den ρ b = .agg (SV.denL ρ b l).toArray := by simp only [SV.den]
theorem den_int (ρ : Env) (b : Bd) (k : IntKind) (r : R) : (SV.int k r).den ρ b = .int k (r.e.i ρ) := by simp only [SV.den]
section
variable {G : Nat → GD} {ρ : Env}
theorem small_of {fn : (Nat → GD) → Nat → List Int → Int} {fb : (Nat → GD) → Nat → List Int → Bool} (h : Std fn fb G ρ) {N : Nat → Prop} {k : Nat} {sh : List CK} {len : R} (h1 : (SV.osl k sh len).ok ρ N) (hl : len.hi ≤ 1000) : (G k).n ≤ 1000 := by
  have e := h1.2.2.2
  rw [h.ol] at e
  have := h1.1.2
  simp only at e
  omega
theorem biP_ok {P : Program} {F : FuncId} {fn : (Nat → GD) → Nat → List Int → Int} {fb : (Nat → GD) → Nat → List Int → Bool} (h : Std fn fb G ρ) {w0 : World} (hG : ∀ k, (G k).ok w0) (hks : ∀ k, (G k).ks = [true]) {id : Nat} (hid : Nat.blt id 1000 = true) {mk : R → SV} {mv : Int → Value} {φ : GD → GD → Int}
    (hφ : ∀ k m, fn G id [k, m] = φ (G k.toNat) (G m.toNat)) (hb : ∀ g g', 0 ≤ φ g g' ∧ φ g g' ≤ 5) (hmk : ∀ r b, (mk r).den ρ b = mv (r.e.i ρ)) (hmo : ∀ r N, r.ok ρ → (mk r).ok ρ N)
    (hc : ∀ g g' w, g.ks = [true] → g'.ks = [true] → g.n ≤ 1000 → g'.n ≤ 1000 → g.ok w → g'.ok w → Calls P F #[.agg #[.slice g.A g.n g.c, .slice g'.A g'.n g'.c]] w fun e w' => e = .returned (mv (φ g g')) ∧ Below w.heap.size w w') : HOK P ρ (argSum F (biP id mk)) := by
  refine argSum_ok fun args gs v hp hg b base w N hok hm hbase => ?_
  unfold biP at hp
  split at hp
  · rename_i k lo hi len m lo' hi' len'
    split at hp
    · rename_i hl
      cases hp
      obtain ⟨⟨h1, h1', _⟩, _⟩ := hok
      have e1 : (SV.denL ρ b [.agg [.osl k [.int .i64 lo hi] len, .osl m [.int .i64 lo' hi'] len']]).toArray = #[.agg #[.slice (G k).A (G k).n (G k).c, .slice (G m).A (G m).n (G m).c]] := by
        simp only [SV.denL, den_agg]
        rw [h.slice h1, h.slice h1']
      rw [e1]
      refine (hc (G k) (G m) w (hks k) (hks m) (small_of h h1 hl.1) (small_of h h1' hl.2) (h.row hG hm hbase k) (h.row hG hm hbase m)).mono ?_
      rintro e w' ⟨h2, h3⟩
      have e2 : (E.ap id (.cons (.c k) (.cons (.c m) .nil))).i ρ = φ (G k) (G m) := by
        simp only [E.i, E.l]
        rw [h.f hid, hφ, Int.toNat_natCast, Int.toNat_natCast]
      refine ⟨by rw [h2, hmk, e2], hmo _ _ ?_, h3⟩
      unfold R.ok
      rw [e2]
      exact hb _ _
    · cases hp
  · cases hp
theorem ppc_le (f : Nat → Int) (x : Int) : ∀ d i, ppc f x d i ≤ i + d := by
  intro d
  induction d with
  | zero => intro i; exact Nat.le_refl _
  | succ d ih =>
    intro i
    show (if f (i + 1) ≤ x then ppc f x d (i + 1) else i) ≤ _
    split
    · have := ih (i + 1); omega
    · omega
theorem piece_sum (h : Std lnF lnB G ρ) {w0 : World} (hG : ∀ k, (G k).ok w0) (hks : ∀ k, (G k).ks = [true]) : HOK Try.prog ρ (argSum 153 pieceP) := by
  refine argSum_ok fun args gs v hp hg b base w N hok hm hbase => ?_
  unfold pieceP at hp
  split at hp
  · rename_i k lo hi len x
    split at hp
    · rename_i hl
      cases hp
      obtain ⟨h1, h2, _⟩ := hok
      have hn := small_of h h1 hl.1
      have e1 : (SV.denL ρ b [.osl k [.int .i64 lo hi] len, .int .i64 x]).toArray = #[.slice (G k).A (G k).n (G k).c, .int .i64 (x.e.i ρ)] := by
        simp only [SV.denL, den_int]
        rw [h.slice h1]
      rw [e1]
      refine (tablePiece (G k) (hks k) hn (x.e.i ρ) ⟨by have := h2.1; omega, by have := h2.2; omega⟩ w (h.row hG hm hbase k)).mono ?_
      rintro e w' ⟨h3, h4⟩
      have e2 : (E.ap 63 (.cons (.c k) (.cons x.e .nil))).i ρ = (ppc (G k).f (x.e.i ρ) ((G k).n - 2) 0 : Int) := by
        simp only [E.i, E.l]
        rw [h.f rfl]
        rfl
      refine ⟨by rw [h3, den_int, e2], ?_, h4⟩
      simp only [SV.ok, R.ok, e2]
      have := ppc_le (G k).f (x.e.i ρ) ((G k).n - 2) 0
      omega
    · cases hp
  · cases hp
theorem pup2_big {n d : Int} (hd : 0 < d) (h1 : -4400000000000000000 ≤ n) (h2 : n ≤ 4400000000000000000) : -9000000000000000000 ≤ pup2 n d ∧ pup2 n d ≤ 9000000000000000000 := by
  unfold pup2
  have := div_bd (2 * n + d) (2 * d) 8900000000000000000 (by omega)
  by_cases hbig : d ≤ 100000000000000000
  · have := this (by omega) (by omega) (by omega); omega
  · constructor
    · refine Int.le_ediv_of_mul_le (by omega) ?_; omega
    · have : (2 * n + d) / (2 * d) < 9000000000000000000 := Int.ediv_lt_of_lt_mul (by omega) (by omega)
      omega
theorem near_ok {F : FuncId} (h : Std lnF lnB G ρ) (hc : ∀ n d w, 0 < d → d ≤ 4000000000000 → -4400000000000000000 ≤ n → n ≤ 4400000000000000000 → Calls Try.prog F #[.int .i64 n, .int .i64 d] w fun e w' => e = .returned (.int .i64 (pup2 n d)) ∧ Below w.heap.size w w') : HOK Try.prog ρ (argSum F nearP) := by
  refine argSum_ok fun args gs v hp hg b base w N hok hm hbase => ?_
  unfold nearP at hp
  split at hp
  · rename_i n d
    cases hp
    have g1 := hg _ (.head _)
    have g2 := hg _ (.tail _ (.head _))
    have g3 := hg _ (.tail _ (.tail _ (.head _)))
    have g4 := hg _ (.tail _ (.tail _ (.tail _ (.head _))))
    have g1 : 0 < d.e.i ρ := of_decide_eq_true g1
    have g2 : d.e.i ρ ≤ 4000000000000 := of_decide_eq_true g2
    have g3 : -4400000000000000000 ≤ n.e.i ρ := of_decide_eq_true g3
    have g4 : n.e.i ρ ≤ 4400000000000000000 := of_decide_eq_true g4
    have e1 : (SV.denL ρ b [.int .i64 n, .int .i64 d]).toArray = #[.int .i64 (n.e.i ρ), .int .i64 (d.e.i ρ)] := by
      simp only [SV.denL, den_int]
    rw [e1]
    refine (hc _ _ w g1 g2 g3 g4).mono ?_
    rintro e w' ⟨h3, h4⟩
    have e2 : (E.ap 50 (.cons n.e (.cons d.e .nil))).i ρ = pup2 (n.e.i ρ) (d.e.i ρ) := by
      simp only [E.i, E.l]
      rw [h.f rfl]
      rfl
    refine ⟨by rw [h3, den_int, e2], ?_, h4⟩
    simp only [SV.ok, R.ok, e2]
    exact pup2_big g1 g3 g4
  · cases hp
end
def tcSum : Handler := orSum (argSum 150 (unP 61 .err)) (argSum 151 (unP 60 .err))
def lmSum : Handler := orSum (argSum 146 (unP 61 (.int .i64))) (argSum 147 (unP 60 (.int .i64)))
def tlSum : Handler := orSum (argSum 153 pieceP) (argSum 154 nearP)
def rlSum : Handler := argSum 148 nearP
def tiSum : Handler := argSum 81 (biP 62 .err)
section
variable {G : Nat → GD} {ρ : Env} (h : Std lnF lnB G ρ) {w0 : World} (hG : ∀ k, (G k).ok w0) (hks : ∀ k, (G k).ks = [true])
include h hG hks
theorem tc_sum : HOK Try.prog ρ tcSum := orSum_ok
  (unP_ok h hG hks rfl (mv := errV) (φ := fun g => prising g.f g.n) (fun k => rfl) (fun g => prising_bd _ _) (fun r b => err_mk ρ h.et r b) (fun r N hr => hr) fun g w hk hn o => tableRising g hk hn w o) (tr_sum h hG hks)
theorem lm_sum : HOK Try.prog ρ lmSum := orSum_ok
  (unP_ok h hG hks rfl (mv := fun z => .int .i64 z) (φ := fun g => prising g.f g.n) (fun k => rfl) (fun g => prising_bd _ _) (fun r b => rfl) (fun r N hr => hr) fun g w hk hn o => refRising g hk hn w o) (rr_sum h hG hks)
theorem tl_sum : HOK Try.prog ρ tlSum := orSum_ok (piece_sum h hG hks) (near_ok h fun n d w h1 h2 h3 h4 => (tableNear n d w h1 h2 h3 h4).mono fun e w' he => ⟨he.1, by rw [← he.2]; exact Below.refl _ _⟩)
omit hG hks in
theorem rl_sum : HOK Try.prog ρ rlSum := near_ok h fun n d w h1 h2 h3 h4 => (refUp n d w h1 h2 h3 h4).mono fun e w' he => ⟨he.1, by rw [← he.2]; exact Below.refl _ _⟩
end
end Go.Proofs.Ytdfpenjhpemokaa.Sx
