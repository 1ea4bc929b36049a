/-
  The statement 'TopFixSaid': for every input the Go function TopFix returns true, and each argument reads afterwards as it read before. No condition.
-/
import Derived.Test.YtdfpenjhpemokaaWTopFix
import Derived.Test.YtdfpenjhpemokaaFrame
namespace Go.Proofs.Ytdfpenjhpemokaa.lTopFix
open Go.ChangeShapes Go.WideShapes Go.ChangeAt Go.RowKit

set_option maxRecDepth 100000 in
theorem lifted (os : Os) (started : os.Started) (H : Type) (enc : TypeId × Value → H) :
    ReturnsInHanded {} Try.checked os 9 .any (Rows.topFixSpec.pre6 enc Try.prog Try.f9 Rows.topFixRow.domain false) (Rows.topFixSpec.post enc Try.prog Try.f9 false true false false) := by
  refine returnsInHanded_of_change (C := Try.checked) fr_own started (by kernel_rfl) Try.func9
    (ChangeSpec.witness6 (enc := enc) (C := Try.checked) false ⟨#[], #[.agg #[.int .i64 0, .int .i64 0], .agg #[.int .i64 0, .int .i64 0], .int .i64 0, .int .i64 0], []⟩ 8 (by kernel_rfl) (by kernel_rfl) (by kernel_rfl) (by kernel_rfl)) ?_
  intro W base args ds gs before hval0 hW _ _
  have hval : ∀ (j : Nat) t v, Try.f9.params[j]? = some t → args[j]? = some v → Value.okWide Try.prog W .any base t v := hval0
  have hW' := hW
  obtain ⟨p, q, hA0, hV, rfl, _, _⟩ := hW
  have hA : DataW.TrodAll enc Try.prog W 0 (fun _ => true) true Try.f9.params.toList args.toList ds p := hA0
  rw [Try.params9] at hA hval
  obtain ⟨v0, vs0, d0, ds0, p0, q0, hargs, rfl, rfl, h0, r0⟩ := trodAll_cons hA
  obtain ⟨v1, vs1, d1, ds1, p1, q1, rfl, rfl, rfl, h1, r1⟩ := trodAll_cons r0
  obtain ⟨v2, vs2, d2, ds2, p2, q2, rfl, rfl, rfl, h2, r2⟩ := trodAll_cons r1
  obtain ⟨v3, vs3, d3, ds3, p3, q3, rfl, rfl, rfl, h3, r3⟩ := trodAll_cons r2
  obtain ⟨rfl, rfl, rfl⟩ := trodAll_nil r3
  obtain rfl : args = #[v0, v1, v2, v3] := by cases args; simp_all
  obtain ⟨rfl, rfl⟩ := trodVars_none hV
  simp only [List.append_nil] at hW' hA0
  obtain ⟨cs0_0, rfl, hf0_0⟩ := flat_open [3, 3] Try.underlying41 (by kernel_rfl) (by kernel_rfl) (hval 0 41 v0 rfl rfl)
  obtain ⟨c0_0, cs0_1, rfl, hc0_0, hf0_1⟩ := okCells_cons hf0_0
  obtain ⟨x0, rfl, bx0⟩ := cell_int Try.underlying3 hc0_0
  obtain ⟨c0_1, cs0_2, rfl, hc0_1, hf0_2⟩ := okCells_cons hf0_1
  obtain ⟨x1, rfl, bx1⟩ := cell_int Try.underlying3 hc0_1
  obtain rfl := okCells_nil hf0_2
  obtain ⟨cs1_0, rfl, hf1_0⟩ := flat_open [3, 3] Try.underlying41 (by kernel_rfl) (by kernel_rfl) (hval 1 41 v1 rfl rfl)
  obtain ⟨c1_0, cs1_1, rfl, hc1_0, hf1_1⟩ := okCells_cons hf1_0
  obtain ⟨x2, rfl, bx2⟩ := cell_int Try.underlying3 hc1_0
  obtain ⟨c1_1, cs1_2, rfl, hc1_1, hf1_2⟩ := okCells_cons hf1_1
  obtain ⟨x3, rfl, bx3⟩ := cell_int Try.underlying3 hc1_1
  obtain rfl := okCells_nil hf1_2
  obtain ⟨x4, rfl, bx4⟩ := okWide_int Try.underlying3 (hval 2 3 v2 rfl rfl)
  obtain ⟨x5, rfl, bx5⟩ := okWide_int Try.underlying3 (hval 3 3 v3 rfl rfl)
  refine (TopFix_core x0 x1 x2 x3 x4 x5 bx0 bx1 bx2 bx3 bx4 bx5 W).mono fun e W' ⟨he, hb⟩ => ?_
  subst he
  exact ⟨_, rfl, post_law (pv := []) hW' (fun _ _ _ => (trodAll_cons_mk (shut_bool Try.underlying4 _) trodAll_mk0)) (trodAll_below fr_laid hb _ _ _ _ (by kernel_rfl) (fun x hx => hW'.lt x hx) hA0) (fun _ _ => rfl) (List.append_nil _).symm hb⟩

theorem k0 : (Rows.topFixRow.wf (OpenSpec.ofChange Rows.topFixSpec) : Bool) = true := by kernel_rfl
theorem k3 : (Try.f9.params.all (Try.prog.readableRec ·) : Bool) = true := by kernel_rfl
theorem k4 : (namedTie Try.prog Rows.topFixRow.named Rows.topFixSpec.vars : Bool) = true := by kernel_rfl
theorem k5 : ((Rows.topFixRow.stops == []) : Bool) = true := by kernel_rfl
theorem k7 : ((Rows.topFixRow.knobs == []) : Bool) = true := by kernel_rfl
theorem k9 : ((Rows.topFixRow.inPlace == Try.prog.inPlace 9) : Bool) = true := by kernel_rfl
theorem k10 : ((Rows.topFixRow.unfollowed == Try.prog.unfollowed 9) : Bool) = true := by kernel_rfl
theorem k11 : ((Rows.topFixRow.recurses == Try.prog.recurses 9) : Bool) = true := by kernel_rfl
theorem k12 : ((Rows.topFixRow.named == Try.prog.varsNamed 9) : Bool) = true := by kernel_rfl
theorem k13 : ((Rows.topFixRow.maps == (Try.f9.params.toList ++ Rows.topFixSpec.plain.varTypes Try.prog).any (Try.prog.mapsRec ·)) : Bool) = true := by kernel_rfl
theorem k14 : ((Rows.topFixRow.ifaces == (Try.f9.params.toList ++ Rows.topFixSpec.plain.varTypes Try.prog).any (Try.prog.ifacesRec ·)) : Bool) = true := by kernel_rfl
theorem k15 : ((Rows.topFixRow.mapsOut == Try.prog.mapsAmong Try.f9.resultTypes.toList) : Bool) = true := by kernel_rfl
theorem k16 : ((Rows.topFixRow.loops == (Try.f9.params.toList ++ Rows.topFixSpec.plain.varTypes Try.prog).any (Try.prog.loopsFrom ·)) : Bool) = true := by kernel_rfl
theorem k17 : ((Rows.topFixRow.wideKeys == (Try.f9.params.toList ++ Rows.topFixSpec.plain.varTypes Try.prog ++ Try.f9.resultTypes.toList).any (Try.prog.wideKeysFrom ·)) : Bool) = true := by kernel_rfl
theorem k18 : (Rows.topFixSpec.vars.all (Try.prog.varReadable ·) : Bool) = true := by kernel_rfl
theorem k19 : (Try.f9.resultTypes.all (fun t => Try.prog.readableRec t && decide (t < Try.prog.types.size)) : Bool) = true := by kernel_rfl
theorem k20 : ((Rows.topFixRow.ifacesOut == Try.f9.resultTypes.toList.any (Try.prog.ifacesRec ·)) : Bool) = true := by kernel_rfl
theorem k21 : ((Rows.topFixRow.loopsOut == Try.f9.resultTypes.toList.any (Try.prog.loopsFrom ·)) : Bool) = true := by kernel_rfl
theorem k22 : ((Rows.topFixRow.plainKeys == Try.prog.plainKeys) : Bool) = true := by kernel_rfl
theorem k23 : (Rows.topFixRow.shortTexts.isNone : Bool) = true := by kernel_rfl
theorem k26 : ((Rows.topFixRow.lifted == Try.prog.liftsFinal) : Bool) = true := by
  show (Rows.topFixRow.lifted == Try.prog.liftsFinal) = true
  rw [fr_lifts]
  kernel_rfl
theorem k27 : ((Try.prog.make == some Rows.topFixRow.make) : Bool) = true := by
  show (Try.prog.make == some Rows.topFixRow.make) = true
  rw [fr_make]
  kernel_rfl
theorem k28 : ((Rows.topFixRow.kinds == (if Rows.topFixRow.domain.isEmpty then [] else Try.f9.params.toList.map fun t => match Try.prog.underlying t with | some (.int k) => some k | _ => none)) : Bool) = true := by kernel_rfl
theorem k29 : ((Rows.topFixRow.pinned == Rows.topFixRow.pinnedBy) : Bool) = true := by kernel_rfl
theorem k30 : ((Rows.topFixRow.veiled == (Try.f9.params.toList ++ Rows.topFixSpec.plain.varTypes Try.prog ++ Try.f9.resultTypes.toList).any (Try.prog.veiledRec ·)) : Bool) = true := by kernel_rfl
theorem k31 : (Rows.topFixRow.veiledFits Try.prog Try.f9.params.toList (Try.f9.params.toList ++ Rows.topFixSpec.plain.varTypes Try.prog ++ Try.f9.resultTypes.toList) : Bool) = true := by kernel_rfl
set_option maxRecDepth 100000 in
theorem closed : joinedFacts Try.prog 9 Try.f9 Rows.topFixSpec Rows.topFixRow = true := (and2 (and2 (and2 (and2 (and2 (and2 (and2 (and2 (and2 (and2 (and2 (and2 (and2 (and2 (and2 (and2 (and2 (and2 (and2 (and2 (and2 (and2 (and2 (and2 (and2 (and2 (and2 (and2 (and2 (and2 (and2 k0 fr_laid) fr_maps) k3) k4) k5) fr_stops) k7) fr_knobs) k9) k10) k11) k12) k13) k14) k15) k16) k17) k18) k19) k20) k21) k22) k23) fr_heard) fr_enter) k26) k27) k28) k29) k30) k31)

theorem over : Rows.topFixRow.holds Try.pinned (OpenSpec.ofChange Rows.topFixSpec) :=
  OpenClaim.holds_of_wide 9 Try.f9 rfl rfl rfl rfl rfl rfl rfl ⟨rfl, rfl, rfl, rfl, rfl⟩ rfl rfl rfl rfl rfl (by kernel_rfl) Try.func9 closed
    (of_decide_eq_true (by kernel_rfl)) (by unfold Func.isWrapper; first | (rw [if_pos (by decide +kernel)]; kernel_rfl) | (rw [if_neg (by decide +kernel)]; exact ⟨rfl, rfl⟩))
    (fun os started H enc _ => lifted os started H enc)

/-- The statement. -/
theorem proved : Rows.TopFixSaid :=
  over
end Go.Proofs.Ytdfpenjhpemokaa.lTopFix
