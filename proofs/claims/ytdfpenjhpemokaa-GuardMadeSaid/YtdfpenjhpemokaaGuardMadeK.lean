/-
  The law GuardMade: the laws that it leans on.
-/
import Derived.Test.YtdfpenjhpemokaaDiceK
import Derived.Test.YtdfpenjhpemokaaWGuardSays
import Derived.Test.YtdfpenjhpemokaaWGuardBounds
set_option linter.unusedVariables false
set_option linter.unusedSimpArgs false
namespace Go.Proofs.Ytdfpenjhpemokaa.Sx
open Go.RowKit
def gsP (args : List SV) : Option (List E × SV) := match args with
  | [.agg [.int .i64 r0, .int .i64 r1, .int .i64 r2, .int .i64 r3, .int .i64 r4, .int .i64 r5], .int .i64 x] => if r0.in64 && r1.in64 && r2.in64 && r3.in64 && r4.in64 && r5.in64 && x.in64 then some ([], .bool (.bc true)) else none
  | _ => none
def gbP (args : List SV) : Option (List E × SV) := match args with
  | [.agg [.int .i64 r0, .int .i64 r1, .int .i64 r2, .int .i64 r3, .int .i64 r4, .int .i64 r5], .int .i64 x, .int .i64 y, .int .i64 z] => if r0.in64 && r1.in64 && r2.in64 && r3.in64 && r4.in64 && r5.in64 && x.in64 && y.in64 && z.in64 then some ([], .bool (.bc true)) else none
  | _ => none
theorem gs_sum (ρ : Env) : HOK Try.prog ρ (argSum 65 gsP) := by
  refine argSum_ok fun args gs v hp hg b base w N hok hm hbase => ?_
  unfold gsP at hp
  split at hp
  · rename_i r0 r1 r2 r3 r4 r5 x
    split at hp
    · rename_i hin
      cases hp
      simp only [Bool.and_eq_true] at hin
      obtain ⟨⟨⟨⟨⟨⟨n0, n1⟩, n2⟩, n3⟩, n4⟩, n5⟩, n6⟩ := hin
      obtain ⟨⟨a0, a1, a2, a3, a4, a5, _⟩, a6, _⟩ := hok
      have e1 : (SV.denL ρ b [.agg [.int .i64 r0, .int .i64 r1, .int .i64 r2, .int .i64 r3, .int .i64 r4, .int .i64 r5], .int .i64 x]).toArray = #[.agg #[.int .i64 (r0.e.i ρ), .int .i64 (r1.e.i ρ), .int .i64 (r2.e.i ρ), .int .i64 (r3.e.i ρ), .int .i64 (r4.e.i ρ), .int .i64 (r5.e.i ρ)], .int .i64 (x.e.i ρ)] := by
        simp only [SV.denL, SV.den]
      rw [e1]
      refine (GuardSays_core _ _ _ _ _ _ _ (R.in64_ok n0 a0) (R.in64_ok n1 a1) (R.in64_ok n2 a2) (R.in64_ok n3 a3) (R.in64_ok n4 a4) (R.in64_ok n5 a5) (R.in64_ok n6 a6) w).mono ?_
      rintro e w' ⟨h3, h4⟩
      exact ⟨h3, trivial, h4⟩
    · cases hp
  · cases hp
theorem gb_sum (ρ : Env) : HOK Try.prog ρ (argSum 7 gbP) := by
  refine argSum_ok fun args gs v hp hg b base w N hok hm hbase => ?_
  unfold gbP at hp
  split at hp
  · rename_i r0 r1 r2 r3 r4 r5 x y z
    split at hp
    · rename_i hin
      cases hp
      simp only [Bool.and_eq_true] at hin
      obtain ⟨⟨⟨⟨⟨⟨⟨⟨n0, n1⟩, n2⟩, n3⟩, n4⟩, n5⟩, n6⟩, n7⟩, n8⟩ := hin
      obtain ⟨⟨a0, a1, a2, a3, a4, a5, _⟩, a6, a7, a8, _⟩ := hok
      have e1 : (SV.denL ρ b [.agg [.int .i64 r0, .int .i64 r1, .int .i64 r2, .int .i64 r3, .int .i64 r4, .int .i64 r5], .int .i64 x, .int .i64 y, .int .i64 z]).toArray = #[.agg #[.int .i64 (r0.e.i ρ), .int .i64 (r1.e.i ρ), .int .i64 (r2.e.i ρ), .int .i64 (r3.e.i ρ), .int .i64 (r4.e.i ρ), .int .i64 (r5.e.i ρ)], .int .i64 (x.e.i ρ), .int .i64 (y.e.i ρ), .int .i64 (z.e.i ρ)] := by
        simp only [SV.denL, SV.den]
      rw [e1]
      refine (GuardBounds_core _ _ _ _ _ _ _ _ _ (R.in64_ok n0 a0) (R.in64_ok n1 a1) (R.in64_ok n2 a2) (R.in64_ok n3 a3) (R.in64_ok n4 a4) (R.in64_ok n5 a5) (R.in64_ok n6 a6) (R.in64_ok n7 a7) (R.in64_ok n8 a8) w).mono ?_
      rintro e w' ⟨h3, h4⟩
      exact ⟨h3, trivial, h4⟩
    · cases hp
  · cases hp
def gMSum : Handler := orSum (argSum 64 pickP) (orSum (argSum 134 brakeP) (orSum (argSum 65 gsP) (argSum 7 gbP)))
theorem gM_sum {G : Nat → GD} {ρ : Env} (h : Std dcF noB G ρ) : HOK Try.prog ρ gMSum :=
  orSum_ok (pick_sum h fun _ _ => rfl) (orSum_ok (brake_sum h fun _ _ _ => rfl) (orSum_ok (gs_sum ρ) (gb_sum ρ)))
end Go.Proofs.Ytdfpenjhpemokaa.Sx
