/-
  The law LineOver walked.
-/
import Derived.Test.YtdfpenjhpemokaaLineOverRun
import Derived.Test.YtdfpenjhpemokaaRow
import Derived.Test.YtdfpenjhpemokaaFrame
set_option linter.unusedVariables false
set_option linter.unusedSimpArgs false
namespace Go.Proofs.Ytdfpenjhpemokaa.Sx
open Go.RowKit
theorem lO_pl {F62 : Int → Int → Int} {F71 : Int → Int → Int → Int → Int} {F72 : Int → Int → Int → Int → Int} {F73 : Int → Int → Int → Int → Int} {x4 x6 x20 x21 y1 y2 y3 y4 y5 y6 : Int} {q7 : Bool} 
    (h0 : y1 = (if (((decide (x21 < x20)) || (decide (x20 < (-2147483647 : Int)))) || (decide ((2147483647 : Int) < x21))) = true then (3 : Int) else (0 : Int)))
    (h1 : y2 = (if (!(decide ((F62 (0 : Int) (1 : Int)) = (0 : Int)))) = true then (F62 (0 : Int) (1 : Int)) else (if (!(decide (y1 = (0 : Int)))) = true then y1 else (0 : Int))))
    (h2 : y3 = (if (!(decide ((F62 (0 : Int) (1 : Int)) = (0 : Int)))) = true then (F62 (0 : Int) (1 : Int)) else (0 : Int)))
    (h3 : y4 = (if (!(decide ((F62 (0 : Int) (1 : Int)) = (0 : Int)))) = true then y1 else (if (!(decide (y1 = (0 : Int)))) = true then y1 else (0 : Int))))
    (h5 : y5 = (if (decide (y2 = (0 : Int))) = true then (F71 (0 : Int) (1 : Int) x20 x21) else (0 : Int)))
    (h6 : y6 = (if (decide (y2 = (0 : Int))) = true then (F72 (0 : Int) (1 : Int) x20 x21) else (0 : Int)))
    (h7 : q7 = ((decide ((F71 (0 : Int) (1 : Int) x20 x21) = y5)) && (decide ((F72 (0 : Int) (1 : Int) x20 x21) = y6))))
    (k3 : F73 0 1 x20 x21 = if F62 0 1 = 0 then pspan x20 x21 else F62 0 1) (k1 : F73 0 1 x20 x21 ≠ 0 → F71 0 1 x20 x21 = 0) (k2 : F73 0 1 x20 x21 ≠ 0 → F72 0 1 x20 x21 = 0)
    : (y2 = F73 0 1 x20 x21) ∧ (((decide ((20 : Int) < x4)) || (decide ((20 : Int) < x6))) || ((decide ((F73 (0 : Int) (1 : Int) x20 x21) = y2)) && q7)) = true := by
  have e1 : y1 = pspan x20 x21 := by
    rw [h0]
    unfold pspan
    by_cases c : x21 < x20 ∨ x20 < -2147483647 ∨ 2147483647 < x21
    · rw [if_pos c, if_pos]
      simp only [Bool.or_eq_true, decide_eq_true_eq]; omega
    · rw [if_neg c, if_neg]
      simp only [Bool.or_eq_true, decide_eq_true_eq]; omega
  have e2 : y2 = F73 0 1 x20 x21 := by
    rw [h1, k3, e1]
    by_cases c : F62 0 1 = 0
    · simp [c]
      intro hz; exact hz.symm
    · simp [c]
  refine ⟨e2, ?_⟩
  rw [e2] at h5 h6
  have e5 : y5 = F71 0 1 x20 x21 := by
    rw [h5]
    by_cases c : F73 0 1 x20 x21 = 0
    · simp [c]
    · simp [c, k1 c]
  have e6 : y6 = F72 0 1 x20 x21 := by
    rw [h6]
    by_cases c : F73 0 1 x20 x21 = 0
    · simp [c]
    · simp [c, k2 c]
  rw [h7, e2, e5, e6]
  simp
theorem lOArgs_ok (g d : GD) (hk : g.ks = [true]) (hk' : d.ks = [true]) (lo hi : Int) (b0 : B64 lo) (b1 : B64 hi) (w : World) (o : g.ok w) (o' : d.ok w) (q1 : (0 : Int) ≤ g.n) (q2 : (g.n : Int) ≤ 9223372036854775807) (q3 : (0 : Int) ≤ d.n) (q4 : (d.n : Int) ≤ 9223372036854775807) {ρ : Env} (h : Jm ovFn ovFb (ltwo g d) (fun n => match n with | 4 => (g.n : Int) | 6 => (d.n : Int) | 20 => lo | 21 => hi | _ => 0) (fun _ => false) ρ) :
    SV.okL ρ (· < 0) lOArgs ∧ Mem ρ (· < w.heap.size) w ∧ SV.denL ρ ⟨fun _ => 0, fun _ => 0, fun _ => 0⟩ lOArgs = [.agg #[.slice g.A g.n g.c, .slice d.A d.n d.c], .agg #[.int .i64 lo, .int .i64 hi]] := by
  have hG := ltwo_ok o o'
  have hks := ltwo_ks hk hk'
  have e20 : ρ.iv 20 = lo := h.at_ 20 rfl
  have e21 : ρ.iv 21 = hi := h.at_ 21 rfl
  obtain ⟨s0, t0⟩ := h.std.osl hG (k := 0) (sh := [.int .i64 (-9223372036854775808) 9223372036854775807]) (by rw [hks]; rfl) (by rw [hks]; decide) (e := .v 4) (lo := 0) (hi := 9223372036854775807) (show ρ.iv 4 = ((ltwo g d 0).n : Int) from h.at_ 4 rfl) (by decide) q1 q2 (· < 0) ⟨fun _ => 0, fun _ => 0, fun _ => 0⟩
  obtain ⟨s1, t1⟩ := h.std.osl hG (k := 1) (sh := [.int .i64 (-9223372036854775808) 9223372036854775807]) (by rw [hks]; rfl) (by rw [hks]; decide) (e := .v 6) (lo := 0) (hi := 9223372036854775807) (show ρ.iv 6 = ((ltwo g d 1).n : Int) from h.at_ 6 rfl) (by decide) q3 q4 (· < 0) ⟨fun _ => 0, fun _ => 0, fun _ => 0⟩
  refine ⟨?_, h.mem hG, ?_⟩
  · unfold lOArgs
    simp only [SV.okL, SV.ok, R.ok, E.i, e20, e21]
    exact ⟨⟨s0, s1, trivial⟩, ⟨b0, b1, trivial⟩, trivial⟩
  · unfold lOArgs
    simp only [SV.denL, den_agg, den_int, E.i, e20, e21, t0, t1]
    rfl
theorem lineOver_true (g d : GD) (hk : g.ks = [true]) (hk' : d.ks = [true]) (lo hi : Int) (b0 : B64 lo) (b1 : B64 hi) (w : World) (o : g.ok w) (o' : d.ok w) :
    Calls Try.prog 17 #[.agg #[.slice g.A g.n g.c, .slice d.A d.n d.c], .agg #[.int .i64 lo, .int .i64 hi]] w fun e w' => e = .returned (.bool true) ∧ Below w.heap.size w w' := by
  obtain ⟨ρ0, h0⟩ := Jm.start ovFn ovFb (ltwo g d) (fun n => match n with | 4 => (g.n : Int) | 6 => (d.n : Int) | 20 => lo | 21 => hi | _ => 0) (fun _ => false)
  have hG := ltwo_ok o o'
  have hks := ltwo_ks hk hk'
  have on := o.n
  have on' := o'.n
  have k73 : ∀ ρ, Jm ovFn ovFb (ltwo g d) (fun n => match n with | 4 => (g.n : Int) | 6 => (d.n : Int) | 20 => lo | 21 => hi | _ => 0) (fun _ => false) ρ → ρ.fn 73 [0, 1, ρ.iv 20, ρ.iv 21] = pover3 g d lo hi ∧ ρ.fn 62 [0, 1] = pline g.f g.n d.f d.n ∧ ρ.fn 71 [0, 1, ρ.iv 20, ρ.iv 21] = poverL g d lo hi ∧ ρ.fn 72 [0, 1, ρ.iv 20, ρ.iv 21] = poverH g d lo hi := by
    intro ρ h
    rw [show ρ.iv 20 = lo from h.at_ 20 rfl, show ρ.iv 21 = hi from h.at_ 21 rfl]
    refine ⟨?_, ?_, ?_, ?_⟩ <;> (rw [h.std.f rfl]; rfl)
  have pl : ∀ ρ, Jm ovFn ovFb (ltwo g d) (fun n => match n with | 4 => (g.n : Int) | 6 => (d.n : Int) | 20 => lo | 21 => hi | _ => 0) (fun _ => false) ρ → saysL ρ lOV → ρ.iv 898926842877034722 = pover3 g d lo hi ∧ lOE.b ρ = true := by
    intro ρ h hv
    obtain ⟨q3, q62, q1, q2⟩ := k73 ρ h
    obtain ⟨h0, h1, h2, h3, -, h5, h6, h7, -⟩ := Eq.mp (lO_says ρ) hv
    have key := lO_pl (x4 := ρ.iv 4) (x6 := ρ.iv 6) (x20 := ρ.iv 20) (x21 := ρ.iv 21) (F62 := fun a0 a1 => ρ.fn 62 [a0, a1]) (F71 := fun a0 a1 a2 a3 => ρ.fn 71 [a0, a1, a2, a3]) (F72 := fun a0 a1 a2 a3 => ρ.fn 72 [a0, a1, a2, a3]) (F73 := fun a0 a1 a2 a3 => ρ.fn 73 [a0, a1, a2, a3]) h0 h1 h2 h3 h5 h6 h7 (by
        show ρ.fn 73 [0, 1, ρ.iv 20, ρ.iv 21] = if ρ.fn 62 [0, 1] = 0 then pspan (ρ.iv 20) (ρ.iv 21) else ρ.fn 62 [0, 1]
        rw [q3, q62, show ρ.iv 20 = lo from h.at_ 20 rfl, show ρ.iv 21 = hi from h.at_ 21 rfl]; rfl)
      (by
        show ρ.fn 73 [0, 1, ρ.iv 20, ρ.iv 21] ≠ 0 → ρ.fn 71 [0, 1, ρ.iv 20, ρ.iv 21] = 0
        rw [q3, q1]; intro hz; unfold poverL; rw [if_neg hz])
      (by
        show ρ.fn 73 [0, 1, ρ.iv 20, ρ.iv 21] ≠ 0 → ρ.fn 72 [0, 1, ρ.iv 20, ρ.iv 21] = 0
        rw [q3, q2]; intro hz; unfold poverH; rw [if_neg hz])
    exact ⟨key.1.trans q3, (lO_e ρ).trans key.2⟩
  refine law_true lO_ran lO_defs lO_no (Jm ovFn ovFb (ltwo g d) (fun n => match n with | 4 => (g.n : Int) | 6 => (d.n : Int) | 20 => lo | 21 => hi | _ => 0) (fun _ => false)) (fun ρ h => ⟨h.std.et, lO_sum h.std hG hks⟩) (fun ρ ρ' h hs => h.same hs) (fun ρ h hv => Eq.mpr (lO_w ρ) (by
    obtain ⟨q3, q62, q1, q2⟩ := k73 ρ h
    refine ⟨fun ⟨c, _⟩ => ?_, trivial⟩
    have c := of_decide_eq_true c
    rw [(pl ρ h hv).1] at c
    exact decide_eq_true (q3.trans c))) (fun ρ h hv => (pl ρ h hv).2) (fun ρ h => lOArgs_ok g d hk hk' lo hi b0 b1 w o o' (Int.natCast_nonneg _) (by omega) (Int.natCast_nonneg _) (by omega) h) h0
end Go.Proofs.Ytdfpenjhpemokaa.Sx
namespace Go.Proofs.Ytdfpenjhpemokaa
open Go.ChangeShapes Go.WideShapes Go.ChangeAt Go.Deep Go.RowKit in
set_option maxRecDepth 100000 in
theorem walkLineOver {H : Type} (W : World) (base : Nat) (enc : TypeId × Value → H) (v0 v1 : Value) {d0 d1 : DataW H} {p0 p1 : List MemPlace}
    (k0 : Value.okWide Try.prog W .any base 81 v0) (k1 : Value.okWide Try.prog W .any base 41 v1)
    (h0 : DataW.Trod enc Try.prog W 0 (fun _ => true) true 81 v0 d0 p0) (_ : DataW.Trod enc Try.prog W 0 (fun _ => true) true 41 v1 d1 p1) :
    Calls Try.prog 17 #[v0, v1] W fun e W' => e = .returned (.bool true) ∧ Below W.heap.size W W' := by
  obtain ⟨g, d, rfl, o, hk, o', hk'⟩ := Sx.pair_open [true] [true] (by decide) (by decide) Try.underlying81 (by kernel_rfl) (by kernel_rfl) Try.underlying78 (by kernel_rfl) (by kernel_rfl) Try.underlying78 (by kernel_rfl) (by kernel_rfl) k0 h0
  obtain ⟨cs0, rfl, hf0⟩ := flat_open [3, 3] Try.underlying41 (by kernel_rfl) (by kernel_rfl) k1
  obtain ⟨c0, cs1, rfl, hc0, hf1⟩ := okCells_cons hf0
  obtain ⟨lo, rfl, b0⟩ := cell_int Try.underlying3 hc0
  obtain ⟨c1, cs2, rfl, hc1, hf2⟩ := okCells_cons hf1
  obtain ⟨hi, rfl, b1⟩ := cell_int Try.underlying3 hc1
  obtain rfl := okCells_nil hf2
  exact Sx.lineOver_true g d hk hk' lo hi b0 b1 W o o'
end Go.Proofs.Ytdfpenjhpemokaa
