/-
  Shares: handlers of R.SpreadMay, R.Spread, share.Spread.
-/
import Derived.Test.YtdfpenjhpemokaaShareR
import Derived.Test.YtdfpenjhpemokaaShareT
set_option linter.unusedVariables false
set_option linter.unusedSimpArgs false
namespace Go.Proofs.Ytdfpenjhpemokaa.Sx
open Go.RowKit
def sprC (k : Nat) (t r x : R) (n : Nat) : List R := (List.range n).map fun (i : Nat) => ⟨.ap 86 (.cons (.c k) (.cons t.e (.cons r.e (.cons x.e (.cons (.c i) .nil))))), -1000, 1000⟩
def rsprP (args : List SV) : Option (List E × List R) := match args with
  | [.agg [.int .i64 t, .int .i64 r, .int .i64 s, .int .i64 c], .osl k [.int .i64 _ _, .int .i64 _ _, .bool] len, .int .i64 x] => if len.lo = len.hi ∧ 1 ≤ len.lo ∧ len.lo ≤ 4 ∧ x.in64 = true then some ([.bin .eq (.ap 87 (.cons (.c k) (.cons t.e (.cons r.e (.cons s.e (.cons c.e .nil)))))) (.c 0)], sprC k t r x len.lo.toNat) else none
  | _ => none
def psprP (args : List SV) : Option (List E × E × List R × R) := match args with
  | [.agg [.int .i64 t, .int .i64 r, .int .i64 s, .int .i64 c], .osl k [.int .i64 _ _, .int .i64 _ _, .bool] len, .int .i64 x] => if len.lo = len.hi ∧ 1 ≤ len.lo ∧ len.lo ≤ 4 ∧ (t.in64 && r.in64 && s.in64 && c.in64 && x.in64) = true then some ([], .bin .eq (.ap 87 (.cons (.c k) (.cons t.e (.cons r.e (.cons s.e (.cons c.e .nil)))))) (.c 0), sprC k t r x len.lo.toNat, ⟨.ap 87 (.cons (.c k) (.cons t.e (.cons r.e (.cons s.e (.cons c.e .nil))))), 1, 3⟩) else none
  | _ => none
def esprP (args : List SV) : Option (List E × SV) := match args with
  | [.agg [.int .i64 t, .int .i64 r, .int .i64 s, .int .i64 c], .osl k [.int .i64 _ _, .int .i64 _ _, .bool] len, .int .i64 x] => if (5 ≤ len.lo ∨ len.hi ≤ 0) ∧ (t.in64 && r.in64 && s.in64 && c.in64 && x.in64) = true then some ([], .tup [.nils, .ifc 23 (.int .i64 ⟨.ap 87 (.cons (.c k) (.cons t.e (.cons r.e (.cons s.e (.cons c.e .nil))))), 1, 3⟩)]) else none
  | _ => none
def sprMayQ (mk : R → SV) (args : List SV) : Option (List E × SV) := match args with
  | [.agg [.int .i64 t, .int .i64 r, .int .i64 s, .int .i64 c], .osl k [.int .i64 _ _, .int .i64 _ _, .bool] len] => if (t.in64 && r.in64 && s.in64 && c.in64) = true then some ([], mk ⟨.ap 87 (.cons (.c k) (.cons t.e (.cons r.e (.cons s.e (.cons c.e .nil))))), if 5 ≤ len.lo ∨ len.hi ≤ 0 then 1 else 0, 3⟩) else none
  | _ => none
section
variable {G : Nat → GD} {ρ : Env}
theorem sprMayQ_ok {F : FuncId} (h : Std shF noB G ρ) {w0 : World} (hG : ∀ k, (G k).ok w0) (hks : ∀ k, (G k).ks = [true, true, false]) {mk : R → SV} {mv : Int → Value}
    (hmk : ∀ r b, (mk r).den ρ b = mv (r.e.i ρ)) (hmo : ∀ r N, r.ok ρ → (mk r).ok ρ N)
    (hc : ∀ (g : GD) (t r s c : Int) (w : World), g.ks = [true, true, false] → g.ok w → B64 t → B64 r → B64 s → B64 c → Calls Try.prog F #[.agg #[.int .i64 t, .int .i64 r, .int .i64 s, .int .i64 c], .slice g.A g.n g.c] w fun e w' => e = .returned (mv (pspreadMay g t r s c)) ∧ Below w.heap.size w w') : HOK Try.prog ρ (argSum F (sprMayQ mk)) := by
  refine argSum_ok fun args gs v hp hg b base w N hok hm hbase => ?_
  unfold sprMayQ at hp
  split at hp
  · rename_i t r s c k l0 h0 l1 h1 len
    split at hp
    rotate_left
    · cases hp
    rename_i hin
    cases hp
    rw [Bool.and_eq_true, Bool.and_eq_true, Bool.and_eq_true] at hin
    obtain ⟨⟨⟨n1, n2⟩, n3⟩, n4⟩ := hin
    obtain ⟨⟨j1, j2, j3, j4, _⟩, k1, _⟩ := hok
    simp only [SV.denL, den_agg, den_int]
    rw [h.slice k1]
    refine (hc (G k) _ _ _ _ w (hks k) (h.row hG hm hbase k) (R.in64_ok n1 j1) (R.in64_ok n2 j2) (R.in64_ok n3 j3) (R.in64_ok n4 j4)).mono ?_
    rintro e w' ⟨h2, h3⟩
    have e2 : (E.ap 87 (.cons (.c k) (.cons t.e (.cons r.e (.cons s.e (.cons c.e .nil)))))).i ρ = pspreadMay (G k) (t.e.i ρ) (r.e.i ρ) (s.e.i ρ) (c.e.i ρ) := by
      simp only [E.i, E.l]
      rw [h.f rfl]
      rfl
    refine ⟨by rw [h2, hmk, e2], hmo _ _ ?_, h3⟩
    unfold R.ok
    rw [e2]
    have hb := psm_bd (G k) (t.e.i ρ) (r.e.i ρ) (s.e.i ρ) (c.e.i ρ) (G k).n (G k).n
    have hl := k1.2.2.2
    rw [h.ol] at hl
    simp only at hl
    have hr := k1.1
    unfold R.ok at hr
    refine ⟨?_, hb.2⟩
    show (if _ then _ else _ : Int) ≤ _
    split
    · rename_i hq
      exact psm_pos (by omega) _
    · exact hb.1
  · cases hp
theorem sprC_map (h : Std shF noB G ρ) (k : Nat) (t r x : R) : ((sprC k t r x (G k).n).map fun r => r.e.i ρ) = psprL (G k) (t.e.i ρ) (r.e.i ρ) (x.e.i ρ) := by
  unfold sprC psprL
  rw [List.map_map]
  apply List.map_congr_left
  intro i hi
  show (E.ap 86 _).i ρ = _
  simp only [E.i, E.l]
  rw [h.f rfl]
  rfl
theorem sprC_ok (h : Std shF noB G ρ) {k : Nat} {t r s c x : R} (hz : pspreadMay (G k) (t.e.i ρ) (r.e.i ρ) (s.e.i ρ) (c.e.i ρ) = 0) : ∀ q ∈ sprC k t r x (G k).n, q.ok ρ := by
  intro q hq
  unfold sprC at hq
  obtain ⟨i, hi, rfl⟩ := List.mem_map.1 hq
  have hi := List.mem_range.1 hi
  obtain ⟨_, _, _, b3⟩ := psm_all _ hz
  have e : (E.ap 86 (.cons (.c k) (.cons t.e (.cons r.e (.cons x.e (.cons (.c i) .nil)))))).i ρ = pspr (G k) (t.e.i ρ) (r.e.i ρ) (x.e.i ρ) i := by
    simp only [E.i, E.l]
    rw [h.f rfl]
    rfl
  unfold R.ok
  rw [e]
  exact pspr_bd _ (b3 i hi)
theorem refSpread (g : GD) (hk : g.ks = [true, true, false]) (t r s c x : Int) (w : World) (o : g.ok w) (hz : pspreadMay g t r s c = 0) (bx : B64 x) :
    Calls Try.prog 89 #[.agg #[.int .i64 t, .int .i64 r, .int .i64 s, .int .i64 c], .slice g.A g.n g.c, .int .i64 x] w fun e w' => (∃ v, e = .returned v ∧ NewList 3 w.heap.size w' (psprL g t r x) v) ∧ Below w.heap.size w w' := by
  obtain ⟨_, b1, b2, _⟩ := psm_all _ hz
  obtain h | h | h | h : g.n = 1 ∨ g.n = 2 ∨ g.n = 3 ∨ g.n = 4 := by omega
  · exact refSpread1 g hk h t r s c x w o hz bx
  · exact refSpread2 g hk h t r s c x w o hz bx
  · exact refSpread3 g hk h t r s c x w o hz bx
  · exact refSpread4 g hk h t r s c x w o hz bx
theorem shSpreadOff (g : GD) (hk : g.ks = [true, true, false]) (t r s c x : Int) (w : World) (o : g.ok w) (hp : 1 ≤ psm g t r s c g.n g.n) (bx : B64 x) :
    Calls Try.prog 90 #[.agg #[.int .i64 t, .int .i64 r, .int .i64 s, .int .i64 c], .slice g.A g.n g.c, .int .i64 x] w fun e w' => e = .returned (.tuple #[.slice none 0 0, .iface 23 (.int .i64 (pspreadMay g t r s c))]) ∧ Below w.heap.size w w' := by
  have hz : pspreadMay g t r s c ≠ 0 := by unfold pspreadMay; omega
  refine (shSpread_e g hk t r s c x w o hz).mono ?_
  rintro e w' ⟨h1, h3⟩
  refine ⟨?_, h3⟩
  rw [h1]
  unfold errV
  rw [if_neg hz]
theorem len_of (h : Std shF noB G ρ) {N : Nat → Prop} {k : Nat} {sh : List CK} {len : R} (h1 : (SV.osl k sh len).ok ρ N) : len.lo ≤ (G k).n ∧ ((G k).n : Int) ≤ len.hi := by
  have e := h1.2.2.2
  rw [h.ol] at e
  simp only at e
  have hr := h1.1
  unfold R.ok at hr
  omega
theorem rspr_ok (h : Std shF noB G ρ) {w0 : World} (hG : ∀ k, (G k).ok w0) (hks : ∀ k, (G k).ks = [true, true, false]) : HOK Try.prog ρ (newSum 3 89 rsprP) := by
  refine newSum_ok fun args gs rs hp hg b base w N hok hm hbase => ?_
  unfold rsprP at hp
  split at hp
  · rename_i t r s c k l0 h0 l1 h1 len x
    split at hp
    · rename_i hin
      cases hp
      obtain ⟨_, k1, k2, _⟩ := hok
      have hl := len_of h k1
      have hn : len.lo.toNat = (G k).n := by omega
      have g1 : ρ.fn 87 [(k : Int), t.e.i ρ, r.e.i ρ, s.e.i ρ, c.e.i ρ] = 0 := of_decide_eq_true (hg _ (.head _))
      rw [h.f rfl] at g1
      have g1 : pspreadMay (G k) (t.e.i ρ) (r.e.i ρ) (s.e.i ρ) (c.e.i ρ) = 0 := g1
      simp only [SV.denL, den_agg, den_int]
      rw [h.slice k1, hn, sprC_map h]
      refine (refSpread (G k) (hks k) _ _ _ _ _ w (h.row hG hm hbase k) g1 (R.in64_ok hin.2.2.2 k2)).mono ?_
      rintro e w' ⟨h2, h3⟩
      exact ⟨h2, sprC_ok h g1, h3⟩
    · cases hp
  · cases hp
theorem pspr_sum (h : Std shF noB G ρ) {w0 : World} (hG : ∀ k, (G k).ok w0) (hks : ∀ k, (G k).ks = [true, true, false]) : HOK Try.prog ρ (newOr 23 3 90 psprP) := by
  refine newOr_ok fun args gs c' rs er hp hg b base w N hok hm hbase => ?_
  unfold psprP at hp
  split at hp
  · rename_i t r s c k l0 h0 l1 h1 len x
    split at hp
    · rename_i hin
      cases hp
      obtain ⟨⟨j1, j2, j3, j4, _⟩, k1, k2, _⟩ := hok
      have hl := len_of h k1
      have hn : len.lo.toNat = (G k).n := by omega
      have hi := hin.2.2.2
      simp only [Bool.and_eq_true] at hi
      obtain ⟨⟨⟨⟨n1, n2⟩, n3⟩, n4⟩, n5⟩ := hi
      have e87 : ρ.fn 87 [(k : Int), t.e.i ρ, r.e.i ρ, s.e.i ρ, c.e.i ρ] = pspreadMay (G k) (t.e.i ρ) (r.e.i ρ) (s.e.i ρ) (c.e.i ρ) := by rw [h.f rfl]; rfl
      have hb := psm_bd (G k) (t.e.i ρ) (r.e.i ρ) (s.e.i ρ) (c.e.i ρ) (G k).n (G k).n
      simp only [SV.denL, den_agg, den_int]
      rw [h.slice k1, hn, sprC_map h]
      refine (shSpread (G k) (hks k) _ _ _ _ _ w (h.row hG hm hbase k) (R.in64_ok n5 k2)).mono ?_
      rintro e w' ⟨⟨v, rfl, (⟨z, l, rfl, h2⟩ | ⟨z, rfl⟩)⟩, h3⟩
      · refine ⟨.inl ⟨?_, l, rfl, h2, sprC_ok h z⟩, h3⟩
        show decide (ρ.fn 87 _ = 0) = true
        exact decide_eq_true (e87.trans z)
      · refine ⟨.inr ⟨?_, ?_, ?_⟩, h3⟩
        · show decide (ρ.fn 87 _ = 0) = false
          exact decide_eq_false (fun hc => z (e87.symm.trans hc))
        · show _ = Ending.returned (.tuple #[.slice none 0 0, .iface 23 (.int .i64 (ρ.fn 87 [(k : Int), t.e.i ρ, r.e.i ρ, s.e.i ρ, c.e.i ρ]))])
          rw [e87]
        · show (1 : Int) ≤ ρ.fn 87 [(k : Int), t.e.i ρ, r.e.i ρ, s.e.i ρ, c.e.i ρ] ∧ ρ.fn 87 [(k : Int), t.e.i ρ, r.e.i ρ, s.e.i ρ, c.e.i ρ] ≤ 3
          rw [e87]
          unfold pspreadMay at z ⊢
          omega
    · cases hp
  · cases hp
theorem espr_ok (h : Std shF noB G ρ) {w0 : World} (hG : ∀ k, (G k).ok w0) (hks : ∀ k, (G k).ks = [true, true, false]) : HOK Try.prog ρ (argSum 90 esprP) := by
  refine argSum_ok fun args gs v hp hg b base w N hok hm hbase => ?_
  unfold esprP at hp
  split at hp
  · rename_i t r s c k l0 h0 l1 h1 len x
    split at hp
    · rename_i hin
      cases hp
      obtain ⟨⟨j1, j2, j3, j4, _⟩, k1, k2, _⟩ := hok
      have hl := len_of h k1
      have hi := hin.2
      simp only [Bool.and_eq_true] at hi
      obtain ⟨⟨⟨⟨n1, n2⟩, n3⟩, n4⟩, n5⟩ := hi
      have e87 : ρ.fn 87 [(k : Int), t.e.i ρ, r.e.i ρ, s.e.i ρ, c.e.i ρ] = pspreadMay (G k) (t.e.i ρ) (r.e.i ρ) (s.e.i ρ) (c.e.i ρ) := by rw [h.f rfl]; rfl
      have hb := psm_bd (G k) (t.e.i ρ) (r.e.i ρ) (s.e.i ρ) (c.e.i ρ) (G k).n (G k).n
      have hp1 := psm_pos (g := G k) (t := t.e.i ρ) (r := r.e.i ρ) (s := s.e.i ρ) (c := c.e.i ρ) (n := (G k).n) (by omega) (G k).n
      have e1 : (SV.denL ρ b [.agg [.int .i64 t, .int .i64 r, .int .i64 s, .int .i64 c], .osl k [.int .i64 l0 h0, .int .i64 l1 h1, .bool] len, .int .i64 x]).toArray = #[.agg #[.int .i64 (t.e.i ρ), .int .i64 (r.e.i ρ), .int .i64 (s.e.i ρ), .int .i64 (c.e.i ρ)], .slice (G k).A (G k).n (G k).c, .int .i64 (x.e.i ρ)] := by
        simp only [SV.denL, den_agg, den_int]
        rw [h.slice k1]
      rw [e1]
      refine (shSpreadOff (G k) (hks k) _ _ _ _ _ w (h.row hG hm hbase k) hp1 (R.in64_ok n5 k2)).mono ?_
      rintro e w' ⟨rfl, h3⟩
      refine ⟨?_, ?_, h3⟩
      · have : ∀ l, (SV.tup l).den ρ b = .tuple (SV.denL ρ b l).toArray := fun l => by simp only [SV.den]
        rw [this]
        simp only [SV.denL, SV.den, E.i, E.l]
        rw [e87]
      · refine ⟨trivial, ?_, trivial⟩
        show (1 : Int) ≤ ρ.fn 87 [(k : Int), t.e.i ρ, r.e.i ρ, s.e.i ρ, c.e.i ρ] ∧ ρ.fn 87 [(k : Int), t.e.i ρ, r.e.i ρ, s.e.i ρ, c.e.i ρ] ≤ 3
        rw [e87]
        exact ⟨hp1, hb.2⟩
    · cases hp
  · cases hp
end
def sLSum : Handler := orSum (argSum 88 (sprMayQ (.int .i64))) (orSum (newSum 3 89 rsprP) (newOr 23 3 90 psprP))
def sLESum : Handler := orSum (argSum 88 (sprMayQ (.int .i64))) (argSum 90 esprP)
theorem sL_may {g : GD} {ρ : Env} (h : Std shF noB (fun _ => g) ρ) {w0 : World} (o : g.ok w0) (hk : g.ks = [true, true, false]) : HOK Try.prog ρ (argSum 88 (sprMayQ (.int .i64))) :=
  sprMayQ_ok h (fun _ => o) (fun _ => hk) (mv := .int .i64) (fun r b => den_int ρ b _ r) (fun r N hr => hr) fun g t r s c w hk o b1 b2 b3 b4 => refSpreadMay g hk t r s c b1 b2 b3 b4 w o
theorem sL_sum {g : GD} {ρ : Env} (h : Std shF noB (fun _ => g) ρ) {w0 : World} (o : g.ok w0) (hk : g.ks = [true, true, false]) : HOK Try.prog ρ sLSum :=
  orSum_ok (sL_may h o hk) (orSum_ok (rspr_ok h (fun _ => o) (fun _ => hk)) (pspr_sum h (fun _ => o) (fun _ => hk)))
theorem sLE_sum {g : GD} {ρ : Env} (h : Std shF noB (fun _ => g) ρ) {w0 : World} (o : g.ok w0) (hk : g.ks = [true, true, false]) : HOK Try.prog ρ sLESum :=
  orSum_ok (sL_may h o hk) (espr_ok h (fun _ => o) (fun _ => hk))
end Go.Proofs.Ytdfpenjhpemokaa.Sx
