/-
  Made inputs: what the dice come to; contracts of R.Pick and R.Brake.
-/
import Derived.Test.YtdfpenjhpemokaaSxStd
import Derived.Test.YtdfpenjhpemokaaGuard
import Derived.Test.YtdfpenjhpemokaaErr
set_option linter.unusedVariables false
set_option linter.unusedSimpArgs false
namespace Go.Proofs.Ytdfpenjhpemokaa.Sx
open Go.RowKit

def dcF (_ : Nat → GD) (id : Nat) (l : List Int) : Int := match id, l with
  | 8, [x, n] => x % n
  | 9, [p, r, s] => pbrake p r s
  | _, _ => 0
def leC (z : Int) (r : R) : List E := if z ≤ r.lo then [] else [.bin .le (.c z) r.e]
def geC (r : R) (z : Int) : List E := if r.hi ≤ z then [] else [.bin .le r.e (.c z)]
theorem leC_ok {ρ : Env} {z : Int} {r : R} (h : ∀ g ∈ leC z r, g.b ρ = true) (ok : r.ok ρ) : z ≤ r.e.i ρ := by
  unfold leC at h
  split at h
  · have := ok.1; omega
  · exact of_decide_eq_true (h _ (.head _))
theorem geC_ok {ρ : Env} {z : Int} {r : R} (h : ∀ g ∈ geC r z, g.b ρ = true) (ok : r.ok ρ) : r.e.i ρ ≤ z := by
  unfold geC at h
  split at h
  · have := ok.2; omega
  · exact of_decide_eq_true (h _ (.head _))
def pickP (args : List SV) : Option (List E × SV) := match args with
  | [.int .i64 x, .int .i64 n] => if n.hi ≤ 9223372036854775807 then some (leC 1 n, .int .i64 ⟨.ap 8 (.cons x.e (.cons n.e .nil)), 0, n.hi - 1⟩) else none
  | _ => none
def brakeP (args : List SV) : Option (List E × SV) := match args with
  | [.agg [.int .i64 _, .int .i64 _, .int .i64 _, .int .i64 push, .int .i64 _, .int .i64 rate], .int .i64 s] => some (leC 1 rate ++ geC rate 4000 ++ leC (-10000) s ++ [.bin .le (.bin .add s.e push.e) (.c 6000)] ++ leC 0 push ++ geC push 2000, .int .i64 ⟨.ap 9 (.cons push.e (.cons rate.e (.cons s.e .nil))), 0, 36006000⟩)
  | _ => none
section
variable {fn : (Nat → GD) → Nat → List Int → Int} {fb : (Nat → GD) → Nat → List Int → Bool} {G : Nat → GD} {ρ : Env}
theorem pick_sum (h : Std fn fb G ρ) (h8 : ∀ x n, fn G 8 [x, n] = x % n) : HOK Try.prog ρ (argSum 64 pickP) := by
  refine argSum_ok fun args gs v hp hg b base w N hok hm hbase => ?_
  unfold pickP at hp
  split at hp
  · rename_i x n
    split at hp
    · rename_i hl
      cases hp
      obtain ⟨h1, h2, _⟩ := hok
      have n1 := leC_ok hg h2
      have n2 := h2.2
      have e1 : (SV.denL ρ b [.int .i64 x, .int .i64 n]).toArray = #[.int .i64 (x.e.i ρ), .int .i64 (n.e.i ρ)] := by
        simp only [SV.denL, SV.den]
      rw [e1]
      refine (refPick (x.e.i ρ) (n.e.i ρ) w (by omega) (by omega)).mono ?_
      rintro e w' ⟨h3, rfl⟩
      have e2 : (E.ap 8 (.cons x.e (.cons n.e .nil))).i ρ = x.e.i ρ % n.e.i ρ := by
        simp only [E.i, E.l]
        rw [h.f rfl, h8]
      refine ⟨by rw [h3]; simp only [SV.den, e2], ?_, Below.refl _ _⟩
      simp only [SV.ok, R.ok, e2]
      have a1 := Int.emod_nonneg (x.e.i ρ) (show n.e.i ρ ≠ 0 by omega)
      have a2 := Int.emod_lt_of_pos (x.e.i ρ) (show 0 < n.e.i ρ by omega)
      omega
    · cases hp
  · cases hp
theorem brake_sum (h : Std fn fb G ρ) (h9 : ∀ p r s, fn G 9 [p, r, s] = pbrake p r s) : HOK Try.prog ρ (argSum 134 brakeP) := by
  refine argSum_ok fun args gs v hp hg b base w N hok hm hbase => ?_
  unfold brakeP at hp
  split at hp
  · rename_i r0 r1 r2 push r4 rate s
    cases hp
    obtain ⟨⟨_, _, _, k1, _, k2, _⟩, k3, _⟩ := hok
    have g1 := leC_ok (fun g hh => hg g (by simp only [List.mem_append]; exact .inl (.inl (.inl (.inl (.inl hh)))))) k2
    have g2 := geC_ok (fun g hh => hg g (by simp only [List.mem_append]; exact .inl (.inl (.inl (.inl (.inr hh)))))) k2
    have g3 := leC_ok (fun g hh => hg g (by simp only [List.mem_append]; exact .inl (.inl (.inl (.inr hh))))) k3
    have g4 := hg (.bin .le (.bin .add s.e push.e) (.c 6000)) (by simp only [List.mem_append]; exact .inl (.inl (.inr (.head _))))
    have g4 : s.e.i ρ + push.e.i ρ ≤ 6000 := of_decide_eq_true g4
    have g5 := leC_ok (fun g hh => hg g (by simp only [List.mem_append]; exact .inl (.inr hh))) k1
    have g6 := geC_ok (fun g hh => hg g (by simp only [List.mem_append]; exact .inr hh)) k1
    have e1 : (SV.denL ρ b [.agg [.int .i64 r0, .int .i64 r1, .int .i64 r2, .int .i64 push, .int .i64 r4, .int .i64 rate], .int .i64 s]).toArray = #[.agg #[.int .i64 (r0.e.i ρ), .int .i64 (r1.e.i ρ), .int .i64 (r2.e.i ρ), .int .i64 (push.e.i ρ), .int .i64 (r4.e.i ρ), .int .i64 (rate.e.i ρ)], .int .i64 (s.e.i ρ)] := by
      simp only [SV.denL, SV.den]
    rw [e1]
    refine (refBrake (r0.e.i ρ) (r1.e.i ρ) (r2.e.i ρ) (push.e.i ρ) (r4.e.i ρ) (rate.e.i ρ) (s.e.i ρ) w g1 g2 g3 g4 g5 g6).mono ?_
    rintro e w' ⟨h3, rfl⟩
    have e2 : (E.ap 9 (.cons push.e (.cons rate.e (.cons s.e .nil)))).i ρ = pbrake (push.e.i ρ) (rate.e.i ρ) (s.e.i ρ) := by
      simp only [E.i, E.l]
      rw [h.f rfl, h9]
    refine ⟨by rw [h3]; simp only [SV.den, e2], ?_, (Below.refl _ _).alloc (Nat.le_refl _) _⟩
    simp only [SV.ok, R.ok, e2]
    exact ⟨pbrake_nonneg g1 _, pbrake_le g1 g2 g4⟩
  · cases hp
end
/-- Raw numbers, and numbers beside them. -/
structure DcJ (g : GD) (a b c : Int) (ρ : Env) : Prop where
  std : Std dcF noB (one g) ρ
  l4 : ρ.iv 4 = g.n
  e5 : ρ.iv 5 = a
  e6 : ρ.iv 6 = b
  e7 : ρ.iv 7 = c
  n4 : g.n ≤ 9223372036854775807
theorem DcJ.same {g : GD} {a b c : Int} {ρ ρ' : Env} (h : DcJ g a b c ρ) (hs : Same ρ ρ' [] []) : DcJ g a b c ρ' := ⟨h.std.same hs, (iv_same hs (n := 4) rfl).trans h.l4, (iv_same hs (n := 5) rfl).trans h.e5, (iv_same hs (n := 6) rfl).trans h.e6, (iv_same hs (n := 7) rfl).trans h.e7, h.n4⟩
theorem dc_start {g : GD} {w : World} (o : g.ok w) (hk : g.ks = [true]) (x y z : Int) (b : Bd) : ∃ ρ, DcJ g x y z ρ ∧ Mem ρ (· < w.heap.size) w ∧ (SV.osl 0 [.int .i64 (-9223372036854775808) 9223372036854775807] ⟨.v 4, 0, 9223372036854775807⟩).ok ρ (· < 0) ∧ (SV.osl 0 [.int .i64 (-9223372036854775808) 9223372036854775807] ⟨.v 4, 0, 9223372036854775807⟩).den ρ b = .slice g.A g.n g.c := by
  obtain ⟨q, q5⟩ := gen_osl (et := 23) (iv := fun n => match n with | 4 => g.n | 5 => x | 6 => y | 7 => z | _ => 0) (bv := fun _ => false) (fn := dcF (one g)) (fb := noB (one g)) (fl := fun _ _ => []) (one_ok o) (k := 0) (m := 4) (sh := [.int .i64 (-9223372036854775808) 9223372036854775807]) (by show g.ks.map ckOf = _; rw [hk]; rfl) rfl (by show g.ks.length ≤ 100; rw [hk]; decide) (· < 0) b
  exact ⟨genEnv 23 (fun n => match n with | 4 => g.n | 5 => x | 6 => y | 7 => z | _ => 0) (fun _ => false) (dcF (one g)) (noB (one g)) (fun _ _ => []) (one g), ⟨Std.gen () _ _ _, rfl, rfl, rfl, rfl, o.n⟩, gen_mem (one_ok o), q, q5⟩
/-! What an axis from raw numbers comes to. -/
theorem axis_ok {P : Int → Int → Int} (hP : ∀ x n, 1 ≤ n → 0 ≤ P x n ∧ P x n < n) {d2 d4 d5 y4 y7 y8 y9 y11 y12 d13 y14 d15 y32 : Int}
    (e4 : 1 ≤ y4 ∧ y4 ≤ 1000) (e7 : y7 = P d5 (1 + P d4 y4)) (e8 : y8 = ((2 + P d2 3) - 1) * (1 + P d4 y4)) (e9 : y9 = ((2 + P d2 3) - 1) * (1 + y7))
    (e11 : 1 ≤ y11 ∧ y11 ≤ 1000) (e12 : y12 = min (min (1 + P d4 y4) (min y9 1000)) y11) (e14 : y14 = min y9 1000 - P d13 (y12 + 1)) (e32 : y32 = P d15 (y14 + 1) + P d13 (y12 + 1)) :
    1 ≤ y14 + 1 ∧ y8 + y32 ≤ 6000 ∧ 1 ≤ y9 ∧ y9 ≤ y8 ∧ y8 ≤ 3000 ∧ 0 ≤ y32 := by
  have p2 := hP d2 3 (by omega)
  have p4 := hP d4 y4 (by omega)
  have p7 := hP d5 (1 + P d4 y4) (by omega)
  rw [← e7] at p7
  generalize P d4 y4 = t at *
  have hs : P d2 3 = 0 ∨ P d2 3 = 1 ∨ P d2 3 = 2 := by omega
  have key : 1 ≤ y9 ∧ y9 ≤ y8 ∧ y8 ≤ 3000 := by
    rcases hs with h | h | h <;> rw [h] at e8 e9 <;> omega
  have p13 := hP d13 (y12 + 1) (by omega)
  generalize P d13 (y12 + 1) = u at *
  have p15 := hP d15 (y14 + 1) (by omega)
  omega
theorem wide_ok {P : Int → Int → Int} (hP : ∀ x n, 1 ≤ n → 0 ≤ P x n ∧ P x n < n) {B : Int → Int → Int → Int} (hB : ∀ p r s, 1 ≤ r → 0 ≤ B p r s) {d18 y17 y32 y9 y8 y33 y34 y35 d38 z y39 d40 y41 y42 y43 : Int}
    (e17 : 1 ≤ y17) (k9 : 1 ≤ y9) (k8 : 1 ≤ y8) (e33 : y33 = P d18 y17 + B y32 y9 y8) (e34 : y34 = P d18 y17 + B y32 y8 y8) (e35 : y35 = if decide (150000 < 2 * y33) = true then 2 * y34 else 2 * y33)
    (ez : 1 ≤ z) (e39 : y39 = P d38 z) (e41 : y41 = P d40 (min (y35 + y39) 100000 + 1)) (e42 : y42 = max (0 - y41) ((y35 + y39) - 200000) + (y35 + y39))
    (e43 : y43 = if decide (100000 < y42) = true then 100000 - (y35 + y39) else max (0 - y41) ((y35 + y39) - 200000)) :
    0 ≤ (if decide (100000 < y42) = true then 100000 else y42) - y43 := by
  have p1 := hP d18 y17 e17
  have b1 := hB y32 y9 y8 k9
  have b2 := hB y32 y8 y8 k8
  have p2 := hP d38 z ez
  have : 0 ≤ y35 := by rw [e35]; split <;> omega
  rw [e43]
  split <;> omega
theorem three_ok {P : Int → Int → Int} {d a b c y : Int} (h : y = if decide (P d 3 = 0) = true then a else if decide (P d 3 = 1) = true then b else c) (ha : 1 ≤ a) (ha' : a ≤ c) (hb : 1 ≤ b) (hb' : b ≤ c) : 1 ≤ y ∧ y ≤ c := by
  rw [h]; split
  · omega
  · split <;> omega
theorem two_in {P : Int → Int → Int} {d : Int} (a b : Int) (ha : 1 ≤ a) (hb : 1 ≤ b) : 1 ≤ if decide (P d 2 = 0) = true then a else b := by
  split <;> omega
end Go.Proofs.Ytdfpenjhpemokaa.Sx
