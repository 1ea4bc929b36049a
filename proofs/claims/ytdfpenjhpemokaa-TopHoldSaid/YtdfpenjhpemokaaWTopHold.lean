/-
  The law TopHold walked.
-/
import Derived.Test.YtdfpenjhpemokaaTopHoldRun
import Derived.Test.YtdfpenjhpemokaaTopHoldPl
import Derived.Test.YtdfpenjhpemokaaRow
import Derived.Test.YtdfpenjhpemokaaFrame
set_option linter.unusedVariables false
set_option linter.unusedSimpArgs false
namespace Go.Proofs.Ytdfpenjhpemokaa.Sx
open Go.RowKit
structure ThJ (g d : GD) (m : Nat → Int) (ρ : Env) : Prop where
  std : Std lnF lnB (ltwo g d) ρ
  l4 : ρ.iv 4 = g.n
  l6 : ρ.iv 6 = d.n
  at_ : ∀ k, k < 35 → ρ.iv k = m k
theorem ThJ.same {g d : GD} {m : Nat → Int} {ρ ρ' : Env} (h : ThJ g d m ρ) (hs : Same ρ ρ' [] []) : ThJ g d m ρ' :=
  ⟨h.std.same hs, (iv_same hs (n := 4) rfl).trans h.l4, (iv_same hs (n := 6) rfl).trans h.l6, fun k hk => (iv_same hs (n := k) (by simp; omega)).trans (h.at_ k hk)⟩
theorem ThJ.p62 {g d : GD} {m : Nat → Int} {ρ : Env} (h : ThJ g d m ρ) : ρ.fn 62 [0, 1] = pline g.f g.n d.f d.n := by rw [h.std.f rfl]; rfl
theorem ThJ.p66 {g d : GD} {m : Nat → Int} {ρ : Env} (h : ThJ g d m ρ) (a b c e f : Int) : ρ.fn 66 [a, b, c, e, f, 0, 1] = phrule a b c e f (ρ.fn 62 [0, 1]) (pgain d.f d.n) := by rw [h.p62, h.std.f rfl]; rfl
theorem ThJ.mul {g d : GD} {m : Nat → Int} {ρ : Env} (h : ThJ g d m ρ) (a b : Int) : -2147483647 ≤ ρ.fn 67 [a, b] ∧ ρ.fn 67 [a, b] ≤ 2147483647 := by
  rw [h.std.f rfl]
  show -2147483647 ≤ pmul a b ∧ pmul a b ≤ 2147483647
  unfold pmul
  exact ⟨pof_lo _, pof_hi _⟩
theorem phrule_len {g d : GD} {lo hi tu bu mo : Int} {ga : Bool} (h : phrule lo hi tu bu mo (pline g.f g.n d.f d.n) ga = 0) : d.n ≤ 8 ∧ pline g.f g.n d.f d.n = 0 := by
  unfold phrule at h
  split at h
  · split at h
    · exact absurd h (by decide)
    · split at h
      · rename_i hp
        obtain ⟨hnn, n2, n8, _⟩ := pline_parts hp
        exact ⟨by omega, hp⟩
      · rename_i hp; exact absurd h hp
  · exact absurd h (by decide)
set_option maxRecDepth 100000 in
set_option maxHeartbeats 1000000 in
theorem topHold_true (g d : GD) (hk : g.ks = [true]) (hk' : d.ks = [true]) (lo hi tu bu mo aim held law stick is speed al prev : Int) (b20 : B64 lo) (b21 : B64 hi) (b22 : B64 tu) (b23 : B64 bu) (b24 : B64 mo) (b25 : B64 aim) (b26 : B64 held) (b27 : B64 law) (b30 : B64 stick) (b31 : B64 is) (b32 : B64 speed) (b33 : B64 al) (b34 : B64 prev) (w : World) (o : g.ok w) (o' : d.ok w) :
    Calls Try.prog 29 #[.agg #[.int .i64 lo, .int .i64 hi, .int .i64 tu, .int .i64 bu, .int .i64 mo, .slice g.A g.n g.c, .slice d.A d.n d.c], .agg #[.int .i64 aim, .int .i64 held, .int .i64 law], .agg #[.int .i64 stick, .int .i64 is, .int .i64 speed, .int .i64 al, .int .i64 prev]] w fun e w' => e = .returned (.bool true) ∧ Below w.heap.size w w' := by
  have on := o.n
  have on' := o'.n
  obtain ⟨ρ0, hiv, hstd, hm, s1, s2, s3, s4⟩ := ltwo_any o o' hk hk' (L := 9223372036854775807) (by omega) (by omega) (fun n => match n with | 4 => (g.n : Int) | 6 => (d.n : Int) | 20 => lo | 21 => hi | 22 => tu | 23 => bu | 24 => mo | 25 => aim | 26 => held | 27 => law | 30 => stick | 31 => is | 32 => speed | 33 => al | 34 => prev | _ => 0) rfl rfl ⟨fun _ => 0, fun _ => 0, fun _ => 0⟩
  have h0 : ThJ g d (fun n => match n with | 4 => (g.n : Int) | 6 => (d.n : Int) | 20 => lo | 21 => hi | 22 => tu | 23 => bu | 24 => mo | 25 => aim | 26 => held | 27 => law | 30 => stick | 31 => is | 32 => speed | 33 => al | 34 => prev | _ => 0) ρ0 := ⟨hstd, congrFun hiv 4, congrFun hiv 6, fun k _ => congrFun hiv k⟩
  have e20 : ρ0.iv 20 = lo := congrFun hiv 20
  have e21 : ρ0.iv 21 = hi := congrFun hiv 21
  have e22 : ρ0.iv 22 = tu := congrFun hiv 22
  have e23 : ρ0.iv 23 = bu := congrFun hiv 23
  have e24 : ρ0.iv 24 = mo := congrFun hiv 24
  have e25 : ρ0.iv 25 = aim := congrFun hiv 25
  have e26 : ρ0.iv 26 = held := congrFun hiv 26
  have e27 : ρ0.iv 27 = law := congrFun hiv 27
  have e30 : ρ0.iv 30 = stick := congrFun hiv 30
  have e31 : ρ0.iv 31 = is := congrFun hiv 31
  have e32 : ρ0.iv 32 = speed := congrFun hiv 32
  have e33 : ρ0.iv 33 = al := congrFun hiv 33
  have e34 : ρ0.iv 34 = prev := congrFun hiv 34
  have key := piece_ret (P := Try.prog) (cfg := cfgK tHSum tHKeeps 50 12) Try.func29 rfl (args := tHArgs) (H := []) (nx := 0) tH_ran0 tH_defs0 tH_no0 (V := .bool true) (ThJ g d (fun n => match n with | 4 => (g.n : Int) | 6 => (d.n : Int) | 20 => lo | 21 => hi | 22 => tu | 23 => bu | 24 => mo | 25 => aim | 26 => held | 27 => law | 30 => stick | 31 => is | 32 => speed | 33 => al | 34 => prev | _ => 0))
    (fun ρ h => ⟨h.std.et, tH_sum h.std (ltwo_ok o o') (ltwo_ks hk hk')⟩) (fun ρ ρ' h hs => h.same hs) (by kernel_rfl)
    (fun ρ h => by
      have h1 := h.l4
      have h2 := h.l6
      have on := o.n
      have on' := o'.n
      have e20 : ρ.iv 20 = lo := h.at_ 20 (by decide)
      have e21 : ρ.iv 21 = hi := h.at_ 21 (by decide)
      have e22 : ρ.iv 22 = tu := h.at_ 22 (by decide)
      have e23 : ρ.iv 23 = bu := h.at_ 23 (by decide)
      have e24 : ρ.iv 24 = mo := h.at_ 24 (by decide)
      have e25 : ρ.iv 25 = aim := h.at_ 25 (by decide)
      have e26 : ρ.iv 26 = held := h.at_ 26 (by decide)
      have e27 : ρ.iv 27 = law := h.at_ 27 (by decide)
      have e30 : ρ.iv 30 = stick := h.at_ 30 (by decide)
      have e31 : ρ.iv 31 = is := h.at_ 31 (by decide)
      have e32 : ρ.iv 32 = speed := h.at_ 32 (by decide)
      have e33 : ρ.iv 33 = al := h.at_ 33 (by decide)
      have e34 : ρ.iv 34 = prev := h.at_ 34 (by decide)
      unfold B64 at b20 b21 b22 b23 b24 b25 b26 b27 b30 b31 b32 b33 b34
      refine List.forall_mem_cons.2 ⟨?_, List.forall_mem_cons.2 ⟨?_, List.forall_mem_cons.2 ⟨?_, List.forall_mem_cons.2 ⟨?_, List.forall_mem_cons.2 ⟨?_, List.forall_mem_cons.2 ⟨?_, List.forall_mem_cons.2 ⟨?_, List.forall_mem_cons.2 ⟨?_, List.forall_mem_cons.2 ⟨?_, List.forall_mem_cons.2 ⟨?_, List.forall_mem_cons.2 ⟨?_, List.forall_mem_cons.2 ⟨?_, List.forall_mem_cons.2 ⟨?_, List.forall_mem_cons.2 ⟨?_, List.forall_mem_cons.2 ⟨?_, fun _ h => nomatch h⟩⟩⟩⟩⟩⟩⟩⟩⟩⟩⟩⟩⟩⟩⟩
      · exact fit_of (z := ρ.iv 20) rfl (by show (-9223372036854775808 : Int) ≤ ρ.iv 20; omega) (by show ρ.iv 20 ≤ 9223372036854775807; omega)
      · exact fit_of (z := ρ.iv 21) rfl (by show (-9223372036854775808 : Int) ≤ ρ.iv 21; omega) (by show ρ.iv 21 ≤ 9223372036854775807; omega)
      · exact fit_of (z := ρ.iv 22) rfl (by show (-9223372036854775808 : Int) ≤ ρ.iv 22; omega) (by show ρ.iv 22 ≤ 9223372036854775807; omega)
      · exact fit_of (z := ρ.iv 23) rfl (by show (-9223372036854775808 : Int) ≤ ρ.iv 23; omega) (by show ρ.iv 23 ≤ 9223372036854775807; omega)
      · exact fit_of (z := ρ.iv 24) rfl (by show (-9223372036854775808 : Int) ≤ ρ.iv 24; omega) (by show ρ.iv 24 ≤ 9223372036854775807; omega)
      · exact fit_of (z := ρ.iv 4) rfl (by show (0 : Int) ≤ ρ.iv 4; omega) (by show ρ.iv 4 ≤ 9223372036854775807; omega)
      · exact fit_of (z := ρ.iv 6) rfl (by show (0 : Int) ≤ ρ.iv 6; omega) (by show ρ.iv 6 ≤ 9223372036854775807; omega)
      · exact fit_of (z := ρ.iv 25) rfl (by show (-9223372036854775808 : Int) ≤ ρ.iv 25; omega) (by show ρ.iv 25 ≤ 9223372036854775807; omega)
      · exact fit_of (z := ρ.iv 26) rfl (by show (-9223372036854775808 : Int) ≤ ρ.iv 26; omega) (by show ρ.iv 26 ≤ 9223372036854775807; omega)
      · exact fit_of (z := ρ.iv 27) rfl (by show (-9223372036854775808 : Int) ≤ ρ.iv 27; omega) (by show ρ.iv 27 ≤ 9223372036854775807; omega)
      · exact fit_of (z := ρ.iv 30) rfl (by show (-9223372036854775808 : Int) ≤ ρ.iv 30; omega) (by show ρ.iv 30 ≤ 9223372036854775807; omega)
      · exact fit_of (z := ρ.iv 31) rfl (by show (-9223372036854775808 : Int) ≤ ρ.iv 31; omega) (by show ρ.iv 31 ≤ 9223372036854775807; omega)
      · exact fit_of (z := ρ.iv 32) rfl (by show (-9223372036854775808 : Int) ≤ ρ.iv 32; omega) (by show ρ.iv 32 ≤ 9223372036854775807; omega)
      · exact fit_of (z := ρ.iv 33) rfl (by show (-9223372036854775808 : Int) ≤ ρ.iv 33; omega) (by show ρ.iv 33 ≤ 9223372036854775807; omega)
      · exact fit_of (z := ρ.iv 34) rfl (by show (-9223372036854775808 : Int) ≤ ρ.iv 34; omega) (by show ρ.iv 34 ≤ 9223372036854775807; omega))
    (fun ρ h hv => Eq.mpr (tH_w0 ρ) (by
      obtain ⟨h0, h1, -, h3, h4, h5, h6, -, h8, h9, h10, h11, h12, -, -, -, h16, h17, h18, h19, h20, h21, h22, h23, h24, h25, h26, h27, h28, h29, h30, h31, h32, -⟩ := Eq.mp (tH_says0 ρ) hv
      have big : ρ.iv 6 ≤ 1000 ∧ ρ.fn 62 [0, 1] = 0 ∨ ¬ ρ.iv 1697314349289060942 = 0 := by
        by_cases hz : ρ.iv 1697314349289060942 = 0
        · rw [h.p66] at h3
          have e : phrule (ρ.iv 20) (ρ.iv 21) (ρ.iv 22) (ρ.iv 23) (ρ.iv 24) (pline g.f g.n d.f d.n) (pgain d.f d.n) = 0 := by rw [← h.p62, ← h3]; exact hz
          obtain ⟨l1, l2⟩ := phrule_len e
          have l6 := h.l6
          exact .inl ⟨by omega, by rw [h.p62]; exact l2⟩
        · exact .inr hz
      have s4 : ∀ c : Bool, (c = true ∧ True → False) → True := fun _ _ => trivial
      refine ⟨?_, ?_, ?_, ?_, ?_, trivial⟩
      · rintro ⟨c, _⟩
        have c := of_decide_eq_true c
        exact decide_eq_true (by omega)
      · rintro ⟨c, _⟩
        rcases big with ⟨b1, _⟩ | b
        · exact decide_eq_true b1
        · exfalso
          simp only [Bool.not_eq_true', Bool.or_eq_false_iff, Bool.not_eq_false', decide_eq_true_eq] at c
          rw [h4] at c
          simp [b] at c
      · rintro ⟨c, _⟩
        rcases big with ⟨b1, b2⟩ | b
        · exact decide_eq_true b1
        · exfalso
          simp only [decide_eq_true_eq] at c
          simp [b] at c
      · rintro ⟨_, c, _⟩
        rcases big with ⟨b1, b2⟩ | b
        · exact decide_eq_true b1
        · exfalso
          simp only [decide_eq_true_eq] at c
          simp [b] at c
      · rintro ⟨_, c, _⟩
        rcases big with ⟨b1, b2⟩ | b
        · exact decide_eq_true b2
        · exfalso
          simp only [decide_eq_true_eq] at c
          simp [b] at c))
    (by
      refine List.forall_mem_cons.2 ⟨?_, fun _ h => nomatch h⟩
      · intro ρ h hv hp
        obtain ⟨h0, h1, h2, h3, h4, h5, h6, h7, h8, h9, h10, h11, h12, h13, h14, h15, h16, h17, h18, h19, h20, h21, h22, h23, h24, h25, h26, h27, h28, h29, h30, h31, h32, _⟩ := Eq.mp (tH_says0 ρ) hv
        refine ⟨.inr rfl, (fun _ h => nomatch h), [.bool (.bv 900)], by kernel_rfl, fun b => ?_⟩
        obtain ⟨h0, h1, -, h3, h4, h5, h6, -, h8, h9, h10, h11, h12, -, -, -, h16, h17, h18, h19, h20, h21, h22, h23, h24, h25, h26, h27, h28, h29, h30, h31, h32, -⟩ := Eq.mp (tH_says0 ρ) hv
        have hb := pline_bd g.f g.n d.f d.n
        have key := topHold_pl (x4 := ρ.iv 4) (P := ρ.fn 66 [ρ.iv 20, ρ.iv 21, ρ.iv 22, ρ.iv 23, ρ.iv 24, 0, 1]) (pl := ρ.fn 62 [0, 1]) (L := ρ.fn 64 [0, 1, ρ.iv 32]) (M := fun a b => ρ.fn 67 [a, b]) (ga := pgain d.f d.n) (h.p66 _ _ _ _ _) (by rw [h.p62]; exact hb.1) (fun a b => h.mul a b) h0 h1 h3 h4 h5 h6 h8 h9 h10 h11 h12 h16 h17 h18 h19 h20 h21 h22 h23 h24 h25 h26 h27 h28 h29 h30 h31 h32
        exact congrArg Value.bool key)
    h0 ⟨fun _ => 0, fun _ => 0, fun _ => 0⟩ w (noHeap _ _ _ _) (by
      unfold tHArgs
      simp only [SV.okL, SV.ok, R.ok, E.i, e20, e21, e22, e23, e24, e25, e26, e27, e30, e31, e32, e33, e34]
      exact ⟨⟨b20, b21, b22, b23, b24, s1, s3, trivial⟩, ⟨b25, b26, b27, trivial⟩, ⟨b30, b31, b32, b33, b34, trivial⟩, trivial⟩) hm
  have e : SV.denL ρ0 ⟨fun _ => 0, fun _ => 0, fun _ => 0⟩ tHArgs = [.agg #[.int .i64 lo, .int .i64 hi, .int .i64 tu, .int .i64 bu, .int .i64 mo, .slice g.A g.n g.c, .slice d.A d.n d.c], .agg #[.int .i64 aim, .int .i64 held, .int .i64 law], .agg #[.int .i64 stick, .int .i64 is, .int .i64 speed, .int .i64 al, .int .i64 prev]] := by
    unfold tHArgs
    simp only [SV.denL]
    simp only [den_agg, SV.denL, den_int, E.i, e20, e21, e22, e23, e24, e25, e26, e27, e30, e31, e32, e33, e34]
    rw [s2, s4]
  rw [e] at key
  exact key
end Go.Proofs.Ytdfpenjhpemokaa.Sx
namespace Go.Proofs.Ytdfpenjhpemokaa
open Go.ChangeShapes Go.WideShapes Go.ChangeAt Go.Deep Go.RowKit in
set_option maxRecDepth 100000 in
theorem walkTopHold {H : Type} (W : World) (base : Nat) (enc : TypeId × Value → H) (v0 v1 v2 : Value) {d0 d1 d2 : DataW H} {p0 p1 p2 : List MemPlace}
    (k0 : Value.okWide Try.prog W .any base 166 v0) (k1 : Value.okWide Try.prog W .any base 154 v1) (k2 : Value.okWide Try.prog W .any base 168 v2)
    (t0 : DataW.Trod enc Try.prog W 0 (fun _ => true) true 166 v0 d0 p0) (_ : DataW.Trod enc Try.prog W 0 (fun _ => true) true 154 v1 d1 p1) (_ : DataW.Trod enc Try.prog W 0 (fun _ => true) true 168 v2 d2 p2) :
    Calls Try.prog 29 #[v0, v1, v2] W fun e W' => e = .returned (.bool true) ∧ Below W.heap.size W W' := by
  obtain ⟨cs1, rfl, hf1⟩ := flat_open [3, 3, 3, 3, 3, 78, 78] Try.underlying166 (by kernel_rfl) (by kernel_rfl) k0
  obtain ⟨a1, cs2, rfl, hc1, hf2⟩ := okCells_cons hf1
  obtain ⟨lo, rfl, b20⟩ := cell_int Try.underlying3 hc1
  obtain ⟨a2, cs3, rfl, hc2, hf3⟩ := okCells_cons hf2
  obtain ⟨hi, rfl, b21⟩ := cell_int Try.underlying3 hc2
  obtain ⟨a3, cs4, rfl, hc3, hf4⟩ := okCells_cons hf3
  obtain ⟨tu, rfl, b22⟩ := cell_int Try.underlying3 hc3
  obtain ⟨a4, cs5, rfl, hc4, hf5⟩ := okCells_cons hf4
  obtain ⟨bu, rfl, b23⟩ := cell_int Try.underlying3 hc4
  obtain ⟨a5, cs6, rfl, hc5, hf6⟩ := okCells_cons hf5
  obtain ⟨mo, rfl, b24⟩ := cell_int Try.underlying3 hc5
  obtain ⟨c5, cs7, rfl, _, hf7⟩ := okCells_cons hf6
  obtain ⟨c6, cs8, rfl, _, hf8⟩ := okCells_cons hf7
  obtain rfl := okCells_nil hf8
  obtain ⟨fu, hfu⟩ := t0
  obtain ⟨xs, m, _, _, _, hlx, hF⟩ := DataW.trod_struct Try.underlying166 hfu
  have a4 : DataW.trod enc Try.prog W 0 (fun _ => true) true m 81 ((((Value.agg ⟨[.int .i64 lo, .int .i64 hi, .int .i64 tu, .int .i64 bu, .int .i64 mo, c5, c6]⟩).cells.toList).drop 5).take ((Try.prog).cellsOf 81)) = xs[4]? := hF 4 _ rfl
  have hx4 : xs[4]? = some (xs[4]'(by simp at hlx; omega)) := List.getElem?_eq_getElem (by simp at hlx; omega)
  rw [show (Try.prog).cellsOf 81 = 2 from by kernel_rfl, hx4] at a4
  obtain ⟨g, d, e56, o, hk, o', hk'⟩ := Sx.pair_at (s := 78) (s' := 78) [true] [true] (by decide) (by decide) Try.underlying81 (by kernel_rfl) rfl Try.underlying78 (by kernel_rfl) (by kernel_rfl) Try.underlying78 (by kernel_rfl) (by kernel_rfl) a4
  have e56 : [c5, c6] = [.slice g.A g.n g.c, .slice d.A d.n d.c] := e56
  cases e56
  obtain ⟨cs9, rfl, hf9⟩ := flat_open [3, 3, 3] Try.underlying154 (by kernel_rfl) (by kernel_rfl) k1
  obtain ⟨a9, cs10, rfl, hc9, hf10⟩ := okCells_cons hf9
  obtain ⟨aim, rfl, b25⟩ := cell_int Try.underlying3 hc9
  obtain ⟨a10, cs11, rfl, hc10, hf11⟩ := okCells_cons hf10
  obtain ⟨held, rfl, b26⟩ := cell_int Try.underlying3 hc10
  obtain ⟨a11, cs12, rfl, hc11, hf12⟩ := okCells_cons hf11
  obtain ⟨law, rfl, b27⟩ := cell_int Try.underlying3 hc11
  obtain rfl := okCells_nil hf12
  obtain ⟨cs13, rfl, hf13⟩ := flat_open [3, 3, 3, 3, 3] Try.underlying168 (by kernel_rfl) (by kernel_rfl) k2
  obtain ⟨a13, cs14, rfl, hc13, hf14⟩ := okCells_cons hf13
  obtain ⟨stick, rfl, b30⟩ := cell_int Try.underlying3 hc13
  obtain ⟨a14, cs15, rfl, hc14, hf15⟩ := okCells_cons hf14
  obtain ⟨is, rfl, b31⟩ := cell_int Try.underlying3 hc14
  obtain ⟨a15, cs16, rfl, hc15, hf16⟩ := okCells_cons hf15
  obtain ⟨speed, rfl, b32⟩ := cell_int Try.underlying3 hc15
  obtain ⟨a16, cs17, rfl, hc16, hf17⟩ := okCells_cons hf16
  obtain ⟨al, rfl, b33⟩ := cell_int Try.underlying3 hc16
  obtain ⟨a17, cs18, rfl, hc17, hf18⟩ := okCells_cons hf17
  obtain ⟨prev, rfl, b34⟩ := cell_int Try.underlying3 hc17
  obtain rfl := okCells_nil hf18
  exact Sx.topHold_true g d hk hk' lo hi tu bu mo aim held law stick is speed al prev b20 b21 b22 b23 b24 b25 b26 b27 b30 b31 b32 b33 b34 W o o'
end Go.Proofs.Ytdfpenjhpemokaa
