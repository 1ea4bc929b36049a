/-
  The law HoldMade: what it leans on; a rule made from raw numbers, whose line lies in own blocks.
-/
import Derived.Test.YtdfpenjhpemokaaDiceK
import Derived.Test.YtdfpenjhpemokaaWHoldSays
set_option linter.unusedVariables false
set_option linter.unusedSimpArgs false
namespace Go.Proofs.Ytdfpenjhpemokaa.Sx
open Go.RowKit
/-- A contract of a call that only computes and reads what is given, and what it is handed. -/
def argSumH (k : FuncId) (p : List SV → List (Nat × HEnt) → Option (List E × SV)) : Handler := fun pc f args H nx =>
  if Nat.beq f k then match p args H with
    | some (gs, v) => some (.leaf ⟨v, H, nx⟩, gs.map fun g => ⟨pc, g⟩)
    | none => none
  else none
theorem argSumH_ok {P : Program} {ρ : Env} {k : FuncId} {p : List SV → List (Nat × HEnt) → Option (List E × SV)}
    (h : ∀ args H gs v, p args H = some (gs, v) → (∀ g ∈ gs, g.b ρ = true) → ∀ b base w N, HRel ρ b base w H N → SV.okL ρ N args → Mem ρ base w → (∀ k, base k → k < w.heap.size) → Calls P k (SV.denL ρ b args).toArray w fun e w' => e = .returned (v.den ρ b) ∧ v.ok ρ N ∧ Below w.heap.size w w') : HOK P ρ (argSumH k p) := by
  intro pc f args H nx r vs hs hpc hv b base w0 w hH hmem hbel hbase hargs
  unfold argSumH at hs
  split at hs
  · rename_i hk
    have := Nat.eq_of_beq_eq_true hk
    subst this
    split at hs
    · rename_i gs v hp
      cases hs
      have hg : ∀ g ∈ gs, g.b ρ = true := fun g hg => hv ⟨pc, g⟩ (List.mem_map.2 ⟨g, hg, rfl⟩) hpc
      refine (h args H gs v hp hg b base w _ hH hargs (hmem.kept hbel) hbase).mono ?_
      rintro e w' ⟨h1, h2, h3⟩
      exact ⟨b, h1, Agree.refl b _, hH.mono (Agree.refl b _) (fun _ h => h) (fun k hk => h3.block k hk) hbase, h2, hbel.trans ((Kept.of h3).mono hbase), fun k hk => Nat.lt_of_lt_of_le (hbase k hk) h3.size, Nat.le_refl _⟩
    · cases hs
  · cases hs
/-- A list of two numbers in an own block. -/
def twoP (H : List (Nat × HEnt)) (v : SV) : Bool := match v with
  | .sl n 0 2 _ => match find H n with
    | some ⟨[], ⟨[.int .i64 r0, .int .i64 r1], _, .full⟩⟩ => r0.in64 && r1.in64
    | _ => false
  | _ => false
theorem twoP_ok {ρ : Env} {b : Bd} {base : Nat → Prop} {w : World} {H : List (Nat × HEnt)} {N : Nat → Prop} (hH : HRel ρ b base w H N) {v : SV} (h : twoP H v = true) : ∃ g : GD, v.den ρ b = .slice g.A g.n g.c ∧ g.ks = [true] ∧ g.ok w := by
  unfold twoP at h
  split at h
  · rename_i n cap
    split at h
    · rename_i r0 r1 ty hf
      rw [Bool.and_eq_true] at h
      obtain ⟨_, hb, hok⟩ := hH.mem n _ hf (allB_nil ρ)
      obtain ⟨k0, k1, _⟩ := hok
      have c0 := hb.cell (i := 0) (v := .int .i64 r0) rfl
      have c1 := hb.cell (i := 1) (v := .int .i64 r1) rfl
      obtain ⟨_, _, hw⟩ := hb
      have hlt : b.β n < w.heap.size := (Array.getElem?_eq_some_iff.1 hw).1
      refine ⟨⟨some ⟨b.β n, b.o n + 0, none⟩, cap.getD (b.κ n), 2, [true], fun i _ => if i = 0 then r0.e.i ρ else r1.e.i ρ, fun _ _ => false⟩, by simp only [SV.den], rfl, ⟨by show (2 : Nat) ≤ 9223372036854775807; decide, fun i j hi hj => ?_, fun i j => ?_⟩⟩
      · refine ⟨b.β n, b.o n + 0, rfl, hlt, ?_⟩
        have hj : j = 0 := by have : j < 1 := hj; omega
        subst hj
        have hi : i = 0 ∨ i = 1 := by have : i < 2 := hi; omega
        rcases hi with rfl | rfl
        · exact c0
        · exact c1
      · show B64 (if i = 0 then _ else _)
        split
        · exact R.in64_ok h.1 k0
        · exact R.in64_ok h.2 k1
    · cases h
  · cases h
def hsP (args : List SV) (H : List (Nat × HEnt)) : Option (List E × SV) := match args with
  | [.agg [.int .i64 r0, .int .i64 r1, .int .i64 r2, .int .i64 r3, .int .i64 r4, a, c], .agg [.int .i64 r5, .int .i64 r6, .int .i64 r7], .agg [.int .i64 r8, .int .i64 r9, .int .i64 r10, .int .i64 r11, .int .i64 r12], .int .i64 r13, .int .i64 r14] => if (twoP H a && twoP H c) = true ∧ (r0.in64 && r1.in64 && r2.in64 && r3.in64 && r4.in64) = true ∧ (r5.in64 && r6.in64 && r7.in64) = true ∧ (r8.in64 && r9.in64 && r10.in64 && r11.in64 && r12.in64) = true ∧ (r13.in64 && r14.in64) = true then some ([], .bool (.bc true)) else none
  | _ => none
theorem hs_sum (ρ : Env) : HOK Try.prog ρ (argSumH 19 hsP) := by
  refine argSumH_ok fun args H gs v hp hg b base w N hH hok hm hbase => ?_
  unfold hsP at hp
  split at hp
  · rename_i r0 r1 r2 r3 r4 a c r5 r6 r7 r8 r9 r10 r11 r12 r13 r14
    split at hp
    · rename_i hin
      cases hp
      simp only [Bool.and_eq_true] at hin
      obtain ⟨⟨t0, t1⟩, ⟨⟨⟨⟨n0, n1⟩, n2⟩, n3⟩, n4⟩, ⟨⟨n5, n6⟩, n7⟩, ⟨⟨⟨⟨n8, n9⟩, n10⟩, n11⟩, n12⟩, n13, n14⟩ := hin
      obtain ⟨⟨a0, a1, a2, a3, a4, _⟩, ⟨a5, a6, a7, _⟩, ⟨a8, a9, a10, a11, a12, _⟩, a13, a14, _⟩ := hok
      obtain ⟨g, eg, hk, o⟩ := twoP_ok hH t0
      obtain ⟨d, ed, hk', o'⟩ := twoP_ok hH t1
      have e1 : (SV.denL ρ b [.agg [.int .i64 r0, .int .i64 r1, .int .i64 r2, .int .i64 r3, .int .i64 r4, a, c], .agg [.int .i64 r5, .int .i64 r6, .int .i64 r7], .agg [.int .i64 r8, .int .i64 r9, .int .i64 r10, .int .i64 r11, .int .i64 r12], .int .i64 r13, .int .i64 r14]).toArray = #[.agg #[.int .i64 (r0.e.i ρ), .int .i64 (r1.e.i ρ), .int .i64 (r2.e.i ρ), .int .i64 (r3.e.i ρ), .int .i64 (r4.e.i ρ), .slice g.A g.n g.c, .slice d.A d.n d.c], .agg #[.int .i64 (r5.e.i ρ), .int .i64 (r6.e.i ρ), .int .i64 (r7.e.i ρ)], .agg #[.int .i64 (r8.e.i ρ), .int .i64 (r9.e.i ρ), .int .i64 (r10.e.i ρ), .int .i64 (r11.e.i ρ), .int .i64 (r12.e.i ρ)], .int .i64 (r13.e.i ρ), .int .i64 (r14.e.i ρ)] := by
        simp only [SV.denL, den_agg, den_int, eg, ed]
      rw [e1]
      refine (holdSays_true g d hk hk' _ _ _ _ _ _ _ _ _ _ _ _ _ _ _ (R.in64_ok n0 a0) (R.in64_ok n1 a1) (R.in64_ok n2 a2) (R.in64_ok n3 a3) (R.in64_ok n4 a4) (R.in64_ok n5 a5) (R.in64_ok n6 a6) (R.in64_ok n7 a7) (R.in64_ok n8 a8) (R.in64_ok n9 a9) (R.in64_ok n10 a10) (R.in64_ok n11 a11) (R.in64_ok n12 a12) (R.in64_ok n13 a13) (R.in64_ok n14 a14) w o o').mono ?_
      rintro e w' ⟨h3, h4⟩
      exact ⟨h3, trivial, h4⟩
    · cases hp
  · cases hp
def hmF (_ : Nat → GD) (id : Nat) (l : List Int) : Int := match id, l with
  | 8, [x, n] => x % n
  | 9, [p, r, s] => pbrake p r s
  | 50, [n, d] => pup2 n d
  | 67, [a, b] => pmul a b
  | _, _ => 0
section
variable {fn : (Nat → GD) → Nat → List Int → Int} {fb : (Nat → GD) → Nat → List Int → Bool} {G : Nat → GD} {ρ : Env}
theorem near_gen (h : Std fn fb G ρ) (h50 : ∀ n d, fn G 50 [n, d] = pup2 n d) : HOK Try.prog ρ (argSum 148 nearP) := by
  refine argSum_ok fun args gs v hp hg b base w N hok hm hbase => ?_
  unfold nearP at hp
  split at hp
  · rename_i n d
    cases hp
    have g1 := hg _ (.head _)
    have g2 := hg _ (.tail _ (.head _))
    have g3 := hg _ (.tail _ (.tail _ (.head _)))
    have g4 := hg _ (.tail _ (.tail _ (.tail _ (.head _))))
    have g1 : 0 < d.e.i ρ := of_decide_eq_true g1
    have g2 : d.e.i ρ ≤ 4000000000000 := of_decide_eq_true g2
    have g3 : -4400000000000000000 ≤ n.e.i ρ := of_decide_eq_true g3
    have g4 : n.e.i ρ ≤ 4400000000000000000 := of_decide_eq_true g4
    have e1 : (SV.denL ρ b [.int .i64 n, .int .i64 d]).toArray = #[.int .i64 (n.e.i ρ), .int .i64 (d.e.i ρ)] := by
      simp only [SV.denL, den_int]
    rw [e1]
    refine (refUp _ _ w g1 g2 g3 g4).mono ?_
    rintro e w' ⟨h3, rfl⟩
    have e2 : (E.ap 50 (.cons n.e (.cons d.e .nil))).i ρ = pup2 (n.e.i ρ) (d.e.i ρ) := by
      simp only [E.i, E.l]
      rw [h.f rfl, h50]
    refine ⟨by rw [h3, den_int, e2], ?_, Below.refl _ _⟩
    simp only [SV.ok, R.ok, e2]
    exact pup2_big g1 g3 g4
  · cases hp
theorem mul_gen (h : Std fn fb G ρ) (h67 : ∀ a b, fn G 67 [a, b] = pmul a b) : HOK Try.prog ρ (argSum 44 mulP) := by
  refine argSum_ok fun args gs v hp hg b base w N hok hm hbase => ?_
  unfold mulP at hp
  split at hp
  · rename_i x y
    cases hp
    have e1 : (SV.denL ρ b [.int .i64 x, .int .i64 y]).toArray = #[.int .i64 (x.e.i ρ), .int .i64 (y.e.i ρ)] := by
      simp only [SV.denL, den_int]
    rw [e1]
    refine (refMul _ _ w).mono ?_
    rintro e w' ⟨h2, rfl⟩
    have e2 : (E.ap 67 (.cons x.e (.cons y.e .nil))).i ρ = pmul (x.e.i ρ) (y.e.i ρ) := by
      simp only [E.i, E.l]
      rw [h.f rfl, h67]
    refine ⟨by rw [h2, den_int, e2], ?_, Below.refl _ _⟩
    simp only [SV.ok, R.ok, e2]
    unfold pmul
    exact ⟨pof_lo _, pof_hi _⟩
  · cases hp
end
def hMSum : Handler := orSum (argSum 64 pickP) (orSum (argSum 134 brakeP) (orSum (argSum 148 nearP) (orSum (argSum 44 mulP) (argSumH 19 hsP))))
theorem hM_sum {G : Nat → GD} {ρ : Env} (h : Std hmF noB G ρ) : HOK Try.prog ρ hMSum :=
  orSum_ok (pick_sum h fun _ _ => rfl) (orSum_ok (brake_sum h fun _ _ _ => rfl) (orSum_ok (near_gen h fun _ _ => rfl) (orSum_ok (mul_gen h fun _ _ => rfl) (hs_sum ρ))))
end Go.Proofs.Ytdfpenjhpemokaa.Sx
