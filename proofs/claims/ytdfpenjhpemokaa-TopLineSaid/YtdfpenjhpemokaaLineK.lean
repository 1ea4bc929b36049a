/-
  Lines: contracts of a line's functions; a line among the arguments.
-/
import Derived.Test.YtdfpenjhpemokaaLineC
set_option linter.unusedVariables false
set_option linter.unusedSimpArgs false
namespace Go.Proofs.Ytdfpenjhpemokaa.Sx
open Go.RowKit
theorem plook_bd {g d : GD} (hp : pline g.f g.n d.f d.n = 0) (x : Int) : -4000000 ≤ plook g.f d.f g.n x ∧ plook g.f d.f g.n x ≤ 4000000 := by
  obtain ⟨hnn, n2, n8, wf, rf, wg⟩ := pline_parts hp
  have f0L := rise_le rf 0 (g.n - 1) (by omega) (by omega)
  generalize hX : pclip x (g.f 0) (g.f (g.n - 1)) = X at *
  have X1 : g.f 0 ≤ X := by rw [← hX]; unfold pclip; split <;> (try split) <;> omega
  have X2 : X ≤ g.f (g.n - 1) := by rw [← hX]; unfold pclip; split <;> (try split) <;> omega
  have hi := ppc_is g.f X g.n (g.n - 2) 0 (by omega) (fun j hj => absurd hj (Nat.not_lt_zero j))
  generalize hI : ppc g.f X (g.n - 2) 0 = i at *
  obtain ⟨i1, i2, i3⟩ := piece_in n2 rf X1 X2 hi
  have b1 := wf i (by omega)
  have b2 := wf (i + 1) (by omega)
  have b3 := wg i (by omega)
  have b4 := wg (i + 1) (by omega)
  have b5 := rf i (by omega)
  have m2 := mulAB (a := d.f (i + 1) - d.f i) (b := X - g.f i) (A := 2000000) (B := g.f (i + 1) - g.f i) (by omega) (by omega) (by omega) (by omega)
  rw [Int.mul_comm (d.f (i + 1) - d.f i)] at m2
  have m3 := pup2_bd (m := (X - g.f i) * (d.f (i + 1) - d.f i)) (d := g.f (i + 1) - g.f i) (B := 2000000) (by omega) m2.1 m2.2
  rw [plook_at (i := i) (by rw [hX]; exact hi), hX]
  unfold pval
  omega
def lookP (args : List SV) : Option (List E × SV) := match args with
  | [.agg [.osl k [.int .i64 _ _] len, .osl m [.int .i64 _ _] len'], .int .i64 x] => if len.hi ≤ 1000 ∧ len'.hi ≤ 1000 ∧ -9223372036854775808 ≤ x.lo ∧ x.hi ≤ 9223372036854775807 then some ([.bin .eq (.ap 62 (.cons (.c k) (.cons (.c m) .nil))) (.c 0)], .int .i64 ⟨.ap 64 (.cons (.c k) (.cons (.c m) (.cons x.e .nil))), -4000000, 4000000⟩) else none
  | _ => none
def risesP (args : List SV) : Option (List E × SV) := match args with
  | [.agg [.osl k [.int .i64 _ _] len, .osl m [.int .i64 _ _] len']] => if len.hi ≤ 1000 ∧ len'.hi ≤ 1000 then some ([], .bool (.ap 65 (.cons (.c k) (.cons (.c m) .nil)))) else none
  | _ => none
def lineSum : Handler := orSum (argSum 81 (biP 62 .err)) (orSum (argSum 78 (biP 62 (.int .i64))) (orSum (argSum 149 lookP) (orSum (argSum 79 lookP) (argSum 82 risesP))))
section
variable {G : Nat → GD} {ρ : Env}
theorem look_ok {F : FuncId} (h : Std lnF lnB G ρ) {w0 : World} (hG : ∀ k, (G k).ok w0) (hks : ∀ k, (G k).ks = [true])
    (hc : ∀ (g d : GD) (w : World) (x : Int), g.ks = [true] → d.ks = [true] → g.n ≤ 1000 → d.n ≤ 1000 → B64 x → pline g.f g.n d.f d.n = 0 → g.ok w → d.ok w → Calls Try.prog F #[.agg #[.slice g.A g.n g.c, .slice d.A d.n d.c], .int .i64 x] w fun e w' => e = .returned (.int .i64 (plook g.f d.f g.n x)) ∧ Below w.heap.size w w') : HOK Try.prog ρ (argSum F lookP) := by
  refine argSum_ok fun args gs v hp hg b base w N hok hm hbase => ?_
  unfold lookP at hp
  split at hp
  · rename_i k lo hi len m lo' hi' len' x
    split at hp
    · rename_i hl
      cases hp
      obtain ⟨⟨h1, h1', _⟩, h2, _⟩ := hok
      have g1 : decide (ρ.fn 62 [(k : Int), (m : Int)] = 0) = true := hg _ (.head _)
      rw [h.f rfl] at g1
      have g1 : pline (G k).f (G k).n (G m).f (G m).n = 0 := of_decide_eq_true g1
      have e1 : (SV.denL ρ b [.agg [.osl k [.int .i64 lo hi] len, .osl m [.int .i64 lo' hi'] len'], .int .i64 x]).toArray = #[.agg #[.slice (G k).A (G k).n (G k).c, .slice (G m).A (G m).n (G m).c], .int .i64 (x.e.i ρ)] := by
        simp only [SV.denL, den_agg, den_int]
        rw [h.slice h1, h.slice h1']
      rw [e1]
      refine (hc (G k) (G m) w (x.e.i ρ) (hks k) (hks m) (small_of h h1 hl.1) (small_of h h1' hl.2.1) ⟨by have := h2.1; omega, by have := h2.2; omega⟩ g1 (h.row hG hm hbase k) (h.row hG hm hbase m)).mono ?_
      rintro e w' ⟨h3, h4⟩
      have e2 : (E.ap 64 (.cons (.c k) (.cons (.c m) (.cons x.e .nil)))).i ρ = plook (G k).f (G m).f (G k).n (x.e.i ρ) := by
        simp only [E.i, E.l]
        rw [h.f rfl]
        rfl
      refine ⟨by rw [h3, den_int, e2], ?_, h4⟩
      simp only [SV.ok, R.ok, e2]
      exact plook_bd g1 _
    · cases hp
  · cases hp
theorem rises_ok (h : Std lnF lnB G ρ) {w0 : World} (hG : ∀ k, (G k).ok w0) (hks : ∀ k, (G k).ks = [true]) : HOK Try.prog ρ (argSum 82 risesP) := by
  refine argSum_ok fun args gs v hp hg b base w N hok hm hbase => ?_
  unfold risesP at hp
  split at hp
  · rename_i k lo hi len m lo' hi' len'
    split at hp
    · rename_i hl
      cases hp
      obtain ⟨⟨h1, h1', _⟩, _⟩ := hok
      have e1 : (SV.denL ρ b [.agg [.osl k [.int .i64 lo hi] len, .osl m [.int .i64 lo' hi'] len']]).toArray = #[.agg #[.slice (G k).A (G k).n (G k).c, .slice (G m).A (G m).n (G m).c]] := by
        simp only [SV.denL, den_agg]
        rw [h.slice h1, h.slice h1']
      rw [e1]
      refine (tableRises (G k) (G m) (hks k) (hks m) (small_of h h1 hl.1) (small_of h h1' hl.2) w (h.row hG hm hbase k) (h.row hG hm hbase m)).mono ?_
      rintro e w' ⟨h3, h4⟩
      have e2 : (E.ap 65 (.cons (.c k) (.cons (.c m) .nil))).b ρ = prises (G k) (G m) := by
        simp only [E.b, E.i, E.l]
        rw [h.b rfl]
        rfl
      refine ⟨by rw [h3]; simp only [SV.den, e2], trivial, h4⟩
    · cases hp
  · cases hp
theorem line_sum (h : Std lnF lnB G ρ) {w0 : World} (hG : ∀ k, (G k).ok w0) (hks : ∀ k, (G k).ks = [true]) : HOK Try.prog ρ lineSum :=
  orSum_ok (ti_sum h hG hks) (orSum_ok (biP_ok h hG hks rfl (mv := fun z => .int .i64 z) (φ := fun g d => pline g.f g.n d.f d.n) (fun k m => rfl) (fun g d => pline_bd _ _ _ _) (fun r b => rfl) (fun r N hr => hr) fun g d w hk hk' hn hn' o o' => refLineMay g d hk hk' hn hn' w o o')
    (orSum_ok (look_ok h hG hks fun g d w x hk hk' hn hn' hx hp o o' => tableLook0 g d hk hk' hn hn' x hx hp w o o') (orSum_ok (look_ok h hG hks fun g d w x hk hk' hn hn' hx hp o o' => refLook0 g d hk hk' hn hn' x hx hp w o o') (rises_ok h hG hks))))
end
/-- A line of any length, and a number beside it. -/
structure LBig (g h : GD) (x : Int) (ρ : Env) : Prop where
  std : Std lnF lnB (ltwo g h) ρ
  l4 : ρ.iv 4 = g.n
  l6 : ρ.iv 6 = h.n
  ex : ρ.iv 5 = x
  s4 : g.n ≤ 9223372036854775807
  s6 : h.n ≤ 9223372036854775807
theorem LBig.same {g h : GD} {x : Int} {ρ ρ' : Env} (a : LBig g h x ρ) (hs : Same ρ ρ' [] []) : LBig g h x ρ' := ⟨a.std.same hs, (iv_same hs (n := 4) rfl).trans a.l4, (iv_same hs (n := 6) rfl).trans a.l6, (iv_same hs (n := 5) rfl).trans a.ex, a.s4, a.s6⟩
theorem LBig.f {g h : GD} {x : Int} {ρ : Env} (a : LBig g h x ρ) (i : Int) : ρ.fn 1000 [i] = g.f i.toNat := a.std.e (k := 0) (j := 0) rfl i
theorem LBig.g {g h : GD} {x : Int} {ρ : Env} (a : LBig g h x ρ) (i : Int) : ρ.fn 1100 [i] = h.f i.toNat := a.std.e (k := 1) (j := 0) rfl i
def bigLine : SV := .agg [.osl 0 [.int .i64 (-9223372036854775808) 9223372036854775807] ⟨.v 4, 0, 9223372036854775807⟩, .osl 1 [.int .i64 (-9223372036854775808) 9223372036854775807] ⟨.v 6, 0, 9223372036854775807⟩]
theorem lbig_start {g h : GD} {w : World} (o : g.ok w) (o' : h.ok w) (hk : g.ks = [true]) (hk' : h.ks = [true]) (x : Int) (b : Bd) : ∃ ρ, LBig g h x ρ ∧ Mem ρ (· < w.heap.size) w ∧ bigLine.ok ρ (· < 0) ∧ bigLine.den ρ b = .agg #[.slice g.A g.n g.c, .slice h.A h.n h.c] := by
  obtain ⟨q, q5⟩ := gen_osl (et := 23) (iv := fun n => match n with | 4 => g.n | 5 => x | 6 => h.n | _ => 0) (bv := fun _ => false) (fn := lnF (ltwo g h)) (fb := lnB (ltwo g h)) (fl := fun _ _ => []) (ltwo_ok o o') (k := 0) (m := 4) (sh := [.int .i64 (-9223372036854775808) 9223372036854775807]) (by show g.ks.map ckOf = _; rw [hk]; rfl) rfl (by show g.ks.length ≤ 100; rw [hk]; decide) (· < 0) b
  obtain ⟨r, r5⟩ := gen_osl (et := 23) (iv := fun n => match n with | 4 => g.n | 5 => x | 6 => h.n | _ => 0) (bv := fun _ => false) (fn := lnF (ltwo g h)) (fb := lnB (ltwo g h)) (fl := fun _ _ => []) (ltwo_ok o o') (k := 1) (m := 6) (sh := [.int .i64 (-9223372036854775808) 9223372036854775807]) (by show h.ks.map ckOf = _; rw [hk']; rfl) rfl (by show h.ks.length ≤ 100; rw [hk']; decide) (· < 0) b
  refine ⟨genEnv 23 (fun n => match n with | 4 => g.n | 5 => x | 6 => h.n | _ => 0) (fun _ => false) (lnF (ltwo g h)) (lnB (ltwo g h)) (fun _ _ => []) (ltwo g h), ⟨Std.gen () _ _ _, rfl, rfl, rfl, o.n, o'.n⟩, gen_mem (ltwo_ok o o'), ⟨q, r, trivial⟩, ?_⟩
  unfold bigLine
  rw [den_agg]
  simp only [SV.denL]
  rw [q5, r5]
  rfl
end Go.Proofs.Ytdfpenjhpemokaa.Sx
namespace Go.Proofs.Ytdfpenjhpemokaa.Sx
open Go.ChangeShapes Go.WideShapes Go.ChangeAt Go.Deep Go.RowKit in
/-- A slice of flat elements, from its cell. -/
theorem gd_at {H : Type} {enc : TypeId × Value → H} {P : Program} {w : World} {base : Nat} {spare : Nat → Bool} {held : Bool} {s e : TypeId} {fu : Nat} {cs : List Value} {x : DataW H × List MemPlace} (ks : List Bool) (h0 : 0 < ks.length) (hs : P.underlying s = some (.slice e)) (hk : P.cellsOf e = ks.length) (hf : flatK P 10 e = some ks)
    (hx : DataW.trod enc P w base spare held fu s cs = some x) : ∃ g : GD, cs = [.slice g.A g.n g.c] ∧ g.ok w ∧ g.ks = ks := by
  obtain ⟨A, n, c, rfl, hnc, hcm, hs⟩ := slice_at ks.length (fun cs => ∀ (j : Nat) (k : Bool), ks[j]? = some k → (k = true → ∃ y, cs[j]? = some (.int .i64 y) ∧ B64 y) ∧ (k = false → ∃ y, cs[j]? = some (.bool y))) hs hk h0 (fun n cs x hx => flatK_ok hf n cs x hx) hx
  unfold maxLen at hcm
  have z64 : B64 0 := by unfold B64; omega
  rcases hs with rfl | ⟨b, off, rfl, hb, hcell⟩
  · exact ⟨⟨A, c, 0, ks, fun _ _ => 0, fun _ _ => false⟩, rfl, ⟨Nat.zero_le _, fun _ _ h => absurd h (Nat.not_lt_zero _), fun _ _ => z64⟩, rfl⟩
  · have hf : ∀ i j, ∃ f : Int × Bool, B64 f.1 ∧ (i < n → j < ks.length → w.cell? ⟨b, off + (i * ks.length + j), none⟩ = some (match ks[j]? with | some true => .int .i64 f.1 | _ => .bool f.2)) := by
      intro i j
      by_cases hi : i < n
      · by_cases hj : j < ks.length
        · obtain ⟨cs, _, hQ, hc⟩ := hcell i hi
          have hj' := List.getElem?_eq_getElem hj
          have h1 := hQ j _ hj'
          have h2 := hc j hj
          rw [Nat.add_assoc] at h2
          rw [hj']
          cases hb : ks[j] with
          | true =>
            obtain ⟨y, hy, hyb⟩ := h1.1 hb
            exact ⟨(y, false), hyb, fun _ _ => by rw [h2, hy]⟩
          | false =>
            obtain ⟨y, hy⟩ := h1.2 hb
            exact ⟨(0, y), z64, fun _ _ => by rw [h2, hy]⟩
        · exact ⟨(0, false), z64, fun _ h => absurd h hj⟩
      · exact ⟨(0, false), z64, fun h => absurd h hi⟩
    obtain ⟨f, hf⟩ := Classical.axiomOfChoice fun i => Classical.axiomOfChoice (hf i)
    exact ⟨⟨some ⟨b, off, none⟩, c, n, ks, fun i j => (f i j).1, fun i j => (f i j).2⟩, rfl, ⟨by show n ≤ _; omega, fun i j hi hj => ⟨b, off, rfl, hb, (hf i j).2 hi hj⟩, fun i j => (hf i j).1⟩, rfl⟩
open Go.ChangeShapes Go.WideShapes Go.ChangeAt Go.Deep Go.RowKit in
/-- A struct of two slices, from its cells. -/
theorem pair_at {H : Type} {enc : TypeId × Value → H} {P : Program} {w : World} {base : Nat} {spare : Nat → Bool} {held : Bool} {t s s' e e' : TypeId} {f0 f1 : Field} {fu : Nat} {cs : List Value} {x : DataW H × List MemPlace} (ks ks' : List Bool) (h0 : 0 < ks.length) (h0' : 0 < ks'.length)
    (ht : P.underlying t = some (.struct #[f0, f1])) (hone : oneCellFields P #[f0, f1] = true) (hl : cs.length = 2)
    (hs : P.underlying f0.type = some (.slice e)) (hk : P.cellsOf e = ks.length) (hf : flatK P 10 e = some ks)
    (hs' : P.underlying f1.type = some (.slice e')) (hk' : P.cellsOf e' = ks'.length) (hf' : flatK P 10 e' = some ks')
    (hx : DataW.trod enc P w base spare held fu t cs = some x) : ∃ g g' : GD, cs = [.slice g.A g.n g.c, .slice g'.A g'.n g'.c] ∧ g.ok w ∧ g.ks = ks ∧ g'.ok w ∧ g'.ks = ks' := by
  obtain ⟨xs, m, _, _, _, hlx, hF⟩ := DataW.trod_struct ht hx
  have a0 := hF 0 f0 rfl
  have a1 := hF 1 f1 rfl
  obtain ⟨o0, k0⟩ := hone_of hone 0 f0 rfl
  obtain ⟨o1, k1⟩ := hone_of hone 1 f1 rfl
  have hx0 : xs[0]? = some (xs[0]'(by simp at hlx; omega)) := List.getElem?_eq_getElem (by simp at hlx; omega)
  have hx1 : xs[1]? = some (xs[1]'(by simp at hlx; omega)) := List.getElem?_eq_getElem (by simp at hlx; omega)
  rw [o0, k0, hx0] at a0
  rw [o1, k1, hx1] at a1
  obtain ⟨g, e0, q1, q2⟩ := gd_at ks h0 hs hk hf a0
  obtain ⟨g', e1, q3, q4⟩ := gd_at ks' h0' hs' hk' hf' a1
  obtain ⟨c0, c1, rfl⟩ : ∃ c0 c1, cs = [c0, c1] := by
    match cs, hl with
    | [c0, c1], _ => exact ⟨c0, c1, rfl⟩
  have e0 : [c0] = [.slice g.A g.n g.c] := e0
  have e1 : [c1] = [.slice g'.A g'.n g'.c] := e1
  cases e0
  cases e1
  exact ⟨g, g', rfl, q1, q2, q3, q4⟩
open Go.ChangeShapes Go.WideShapes Go.ChangeAt Go.Deep Go.RowKit in
/-- A struct of two slices. -/
theorem pair_open {H : Type} {enc : TypeId × Value → H} {P : Program} {w : World} {base : Nat} {spare : Nat → Bool} {held : Bool} {t e e' : TypeId} {f0 f1 : Field} {v : Value} {d : DataW H} {p : List MemPlace} (ks ks' : List Bool) (h0 : 0 < ks.length) (h0' : 0 < ks'.length)
    (ht : P.underlying t = some (.struct #[f0, f1])) (hone : oneCellFields P #[f0, f1] = true) (hl : P.cellsOf t = 2)
    (hs : P.underlying f0.type = some (.slice e)) (hk : P.cellsOf e = ks.length) (hf : flatK P 10 e = some ks)
    (hs' : P.underlying f1.type = some (.slice e')) (hk' : P.cellsOf e' = ks'.length) (hf' : flatK P 10 e' = some ks')
    {r : Reach} {b0 : Nat} (hv : Value.okWide P w r b0 t v) (hx : DataW.Trod enc P w base spare held t v d p) : ∃ g g' : GD, v = .agg #[.slice g.A g.n g.c, .slice g'.A g'.n g'.c] ∧ g.ok w ∧ g.ks = ks ∧ g'.ok w ∧ g'.ks = ks' := by
  have hv' : ∃ cs, v = .agg cs ∧ cs.size = P.cellsOf t := by
    unfold Value.okWide at hv
    rw [ht] at hv
    obtain ⟨cs, h1, h2, _⟩ := hv
    exact ⟨cs, h1, h2⟩
  obtain ⟨⟨cs⟩, rfl, hsz⟩ := hv'
  obtain ⟨fu, hfu⟩ := hx
  have hcs : (Value.agg ⟨cs⟩).cells.toList = cs := rfl
  rw [hcs] at hfu
  obtain ⟨g, g', rfl, q1, q2, q3, q4⟩ := pair_at (s := f0.type) (s' := f1.type) ks ks' h0 h0' ht hone (by rw [← hl, ← hsz]; rfl) hs hk hf hs' hk' hf' hfu
  exact ⟨g, g', rfl, q1, q2, q3, q4⟩
end Go.Proofs.Ytdfpenjhpemokaa.Sx
