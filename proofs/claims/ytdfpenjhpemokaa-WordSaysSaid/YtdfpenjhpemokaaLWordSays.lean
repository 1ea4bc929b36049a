/-
  The statement 'WordSaysSaid': for every input the Go function WordSays returns true, and each argument reads afterwards as it read before. No condition.
-/
import Derived.Test.YtdfpenjhpemokaaWWordSays
import Derived.Test.YtdfpenjhpemokaaFrame
namespace Go.Proofs.Ytdfpenjhpemokaa.lWordSays
open Go.ChangeShapes Go.WideShapes Go.ChangeAt Go.RowKit

set_option maxRecDepth 100000 in
theorem lifted (os : Os) (started : os.Started) (H : Type) (enc : TypeId × Value → H) :
    ReturnsInHanded {} Try.checked os 4 .any (Rows.wordSaysSpec.pre6 enc Try.prog Try.f4 Rows.wordSaysRow.domain false) (Rows.wordSaysSpec.post enc Try.prog Try.f4 false true false false) := by
  refine returnsInHanded_of_change (C := Try.checked) fr_own started (by kernel_rfl) Try.func4
    (ChangeSpec.witness6 (enc := enc) (C := Try.checked) false ⟨#[], #[.agg #[.int .i64 0, .int .i64 0, .int .i64 0, .int .i64 0]], []⟩ 8 (by kernel_rfl) (by kernel_rfl) (by kernel_rfl) (by kernel_rfl)) ?_
  intro W base args ds gs before hval0 hW _ _
  have hval : ∀ (j : Nat) t v, Try.f4.params[j]? = some t → args[j]? = some v → Value.okWide Try.prog W .any base t v := hval0
  have hW' := hW
  obtain ⟨p, q, hA0, hV, rfl, _, _⟩ := hW
  have hA : DataW.TrodAll enc Try.prog W 0 (fun _ => true) true Try.f4.params.toList args.toList ds p := hA0
  rw [Try.params4] at hA hval
  obtain ⟨v0, vs0, d0, ds0, p0, q0, hargs, rfl, rfl, h0, r0⟩ := trodAll_cons hA
  obtain ⟨rfl, rfl, rfl⟩ := trodAll_nil r0
  obtain rfl : args = #[v0] := by cases args; simp_all
  obtain ⟨rfl, rfl⟩ := trodVars_none hV
  simp only [List.append_nil] at hW' hA0
  obtain ⟨cs0_0, rfl, hf0_0⟩ := flat_open [3, 3, 3, 3] Try.underlying27 (by kernel_rfl) (by kernel_rfl) (hval 0 27 v0 rfl rfl)
  obtain ⟨c0_0, cs0_1, rfl, hc0_0, hf0_1⟩ := okCells_cons hf0_0
  obtain ⟨x0, rfl, bx0⟩ := cell_int Try.underlying3 hc0_0
  obtain ⟨c0_1, cs0_2, rfl, hc0_1, hf0_2⟩ := okCells_cons hf0_1
  obtain ⟨x1, rfl, bx1⟩ := cell_int Try.underlying3 hc0_1
  obtain ⟨c0_2, cs0_3, rfl, hc0_2, hf0_3⟩ := okCells_cons hf0_2
  obtain ⟨x2, rfl, bx2⟩ := cell_int Try.underlying3 hc0_2
  obtain ⟨c0_3, cs0_4, rfl, hc0_3, hf0_4⟩ := okCells_cons hf0_3
  obtain ⟨x3, rfl, bx3⟩ := cell_int Try.underlying3 hc0_3
  obtain rfl := okCells_nil hf0_4
  refine (WordSays_core x0 x1 x2 x3 bx0 bx1 bx2 bx3 W).mono fun e W' ⟨he, hb⟩ => ?_
  subst he
  exact ⟨_, rfl, post_law (pv := []) hW' (fun _ _ _ => (trodAll_cons_mk (shut_bool Try.underlying4 _) trodAll_mk0)) (trodAll_below fr_laid hb _ _ _ _ (by kernel_rfl) (fun x hx => hW'.lt x hx) hA0) (fun _ _ => rfl) (List.append_nil _).symm hb⟩

theorem k0 : (Rows.wordSaysRow.wf (OpenSpec.ofChange Rows.wordSaysSpec) : Bool) = true := by kernel_rfl
theorem k3 : (Try.f4.params.all (Try.prog.readableRec ·) : Bool) = true := by kernel_rfl
theorem k4 : (namedTie Try.prog Rows.wordSaysRow.named Rows.wordSaysSpec.vars : Bool) = true := by kernel_rfl
theorem k5 : ((Rows.wordSaysRow.stops == []) : Bool) = true := by kernel_rfl
theorem k7 : ((Rows.wordSaysRow.knobs == []) : Bool) = true := by kernel_rfl
theorem k9 : ((Rows.wordSaysRow.inPlace == Try.prog.inPlace 4) : Bool) = true := by kernel_rfl
theorem k10 : ((Rows.wordSaysRow.unfollowed == Try.prog.unfollowed 4) : Bool) = true := by kernel_rfl
theorem k11 : ((Rows.wordSaysRow.recurses == Try.prog.recurses 4) : Bool) = true := by kernel_rfl
theorem k12 : ((Rows.wordSaysRow.named == Try.prog.varsNamed 4) : Bool) = true := by kernel_rfl
theorem k13 : ((Rows.wordSaysRow.maps == (Try.f4.params.toList ++ Rows.wordSaysSpec.plain.varTypes Try.prog).any (Try.prog.mapsRec ·)) : Bool) = true := by kernel_rfl
theorem k14 : ((Rows.wordSaysRow.ifaces == (Try.f4.params.toList ++ Rows.wordSaysSpec.plain.varTypes Try.prog).any (Try.prog.ifacesRec ·)) : Bool) = true := by kernel_rfl
theorem k15 : ((Rows.wordSaysRow.mapsOut == Try.prog.mapsAmong Try.f4.resultTypes.toList) : Bool) = true := by kernel_rfl
theorem k16 : ((Rows.wordSaysRow.loops == (Try.f4.params.toList ++ Rows.wordSaysSpec.plain.varTypes Try.prog).any (Try.prog.loopsFrom ·)) : Bool) = true := by kernel_rfl
theorem k17 : ((Rows.wordSaysRow.wideKeys == (Try.f4.params.toList ++ Rows.wordSaysSpec.plain.varTypes Try.prog ++ Try.f4.resultTypes.toList).any (Try.prog.wideKeysFrom ·)) : Bool) = true := by kernel_rfl
theorem k18 : (Rows.wordSaysSpec.vars.all (Try.prog.varReadable ·) : Bool) = true := by kernel_rfl
theorem k19 : (Try.f4.resultTypes.all (fun t => Try.prog.readableRec t && decide (t < Try.prog.types.size)) : Bool) = true := by kernel_rfl
theorem k20 : ((Rows.wordSaysRow.ifacesOut == Try.f4.resultTypes.toList.any (Try.prog.ifacesRec ·)) : Bool) = true := by kernel_rfl
theorem k21 : ((Rows.wordSaysRow.loopsOut == Try.f4.resultTypes.toList.any (Try.prog.loopsFrom ·)) : Bool) = true := by kernel_rfl
theorem k22 : ((Rows.wordSaysRow.plainKeys == Try.prog.plainKeys) : Bool) = true := by kernel_rfl
theorem k23 : (Rows.wordSaysRow.shortTexts.isNone : Bool) = true := by kernel_rfl
theorem k26 : ((Rows.wordSaysRow.lifted == Try.prog.liftsFinal) : Bool) = true := by
  show (Rows.wordSaysRow.lifted == Try.prog.liftsFinal) = true
  rw [fr_lifts]
  kernel_rfl
theorem k27 : ((Try.prog.make == some Rows.wordSaysRow.make) : Bool) = true := by
  show (Try.prog.make == some Rows.wordSaysRow.make) = true
  rw [fr_make]
  kernel_rfl
theorem k28 : ((Rows.wordSaysRow.kinds == (if Rows.wordSaysRow.domain.isEmpty then [] else Try.f4.params.toList.map fun t => match Try.prog.underlying t with | some (.int k) => some k | _ => none)) : Bool) = true := by kernel_rfl
theorem k29 : ((Rows.wordSaysRow.pinned == Rows.wordSaysRow.pinnedBy) : Bool) = true := by kernel_rfl
theorem k30 : ((Rows.wordSaysRow.veiled == (Try.f4.params.toList ++ Rows.wordSaysSpec.plain.varTypes Try.prog ++ Try.f4.resultTypes.toList).any (Try.prog.veiledRec ·)) : Bool) = true := by kernel_rfl
theorem k31 : (Rows.wordSaysRow.veiledFits Try.prog Try.f4.params.toList (Try.f4.params.toList ++ Rows.wordSaysSpec.plain.varTypes Try.prog ++ Try.f4.resultTypes.toList) : Bool) = true := by kernel_rfl
set_option maxRecDepth 100000 in
theorem closed : joinedFacts Try.prog 4 Try.f4 Rows.wordSaysSpec Rows.wordSaysRow = true := (and2 (and2 (and2 (and2 (and2 (and2 (and2 (and2 (and2 (and2 (and2 (and2 (and2 (and2 (and2 (and2 (and2 (and2 (and2 (and2 (and2 (and2 (and2 (and2 (and2 (and2 (and2 (and2 (and2 (and2 (and2 k0 fr_laid) fr_maps) k3) k4) k5) fr_stops) k7) fr_knobs) k9) k10) k11) k12) k13) k14) k15) k16) k17) k18) k19) k20) k21) k22) k23) fr_heard) fr_enter) k26) k27) k28) k29) k30) k31)

theorem over : Rows.wordSaysRow.holds Try.pinned (OpenSpec.ofChange Rows.wordSaysSpec) :=
  OpenClaim.holds_of_wide 4 Try.f4 rfl rfl rfl rfl rfl rfl rfl ⟨rfl, rfl, rfl, rfl, rfl⟩ rfl rfl rfl rfl rfl (by kernel_rfl) Try.func4 closed
    (of_decide_eq_true (by kernel_rfl)) (by unfold Func.isWrapper; first | (rw [if_pos (by decide +kernel)]; kernel_rfl) | (rw [if_neg (by decide +kernel)]; exact ⟨rfl, rfl⟩))
    (fun os started H enc _ => lifted os started H enc)

/-- The statement. -/
theorem proved : Rows.WordSaysSaid :=
  over
end Go.Proofs.Ytdfpenjhpemokaa.lWordSays
