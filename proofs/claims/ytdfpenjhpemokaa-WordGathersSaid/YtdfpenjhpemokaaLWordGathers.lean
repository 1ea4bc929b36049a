/-
  The statement 'WordGathersSaid': for every input the Go function WordGathers returns true, and each argument reads afterwards as it read before. No condition.
-/
import Derived.Test.YtdfpenjhpemokaaWWordGathers
import Derived.Test.YtdfpenjhpemokaaFrame
set_option linter.unusedVariables false
set_option linter.unusedSimpArgs false
namespace Go.Proofs.Ytdfpenjhpemokaa.lWordGathers
open Go.ChangeShapes Go.WideShapes Go.ChangeAt Go.RowKit

set_option maxRecDepth 100000 in
theorem lifted (os : Os) (started : os.Started) (H : Type) (enc : TypeId × Value → H) :
    ReturnsInHanded {} Try.checked os 22 .any (Rows.wordGathersSpec.pre6 enc Try.prog Try.f22 Rows.wordGathersRow.domain false) (Rows.wordGathersSpec.post enc Try.prog Try.f22 false true false false) := by
  refine returnsInHanded_of_change (C := Try.checked) fr_own started (by kernel_rfl) Try.func22
    (ChangeSpec.witness6 (enc := enc) (C := Try.checked) false ⟨#[], #[.slice none 0 0, .int .i64 0, .int .i64 0], []⟩ 8 (by kernel_rfl) (by kernel_rfl) (by kernel_rfl) (by kernel_rfl)) ?_
  intro W base args ds gs before hval0 hW _ _
  have hval : ∀ (j : Nat) t v, Try.f22.params[j]? = some t → args[j]? = some v → Value.okWide Try.prog W .any base t v := hval0
  have hW' := hW
  obtain ⟨p, q, hA0, hV, rfl, _, _⟩ := hW
  have hA : DataW.TrodAll enc Try.prog W 0 (fun _ => true) true Try.f22.params.toList args.toList ds p := hA0
  rw [Try.params22] at hA hval
  obtain ⟨v0, vs0, d0, ds0, p0, q0, hargs, rfl, rfl, h0, r0⟩ := trodAll_cons hA
  obtain ⟨v1, vs1, d1, ds1, p1, q1, rfl, rfl, rfl, h1, r1⟩ := trodAll_cons r0
  obtain ⟨v2, vs2, d2, ds2, p2, q2, rfl, rfl, rfl, h2, r2⟩ := trodAll_cons r1
  obtain ⟨rfl, rfl, rfl⟩ := trodAll_nil r2
  obtain rfl : args = #[v0, v1, v2] := by cases args; simp_all
  obtain ⟨rfl, rfl⟩ := trodVars_none hV
  simp only [List.append_nil] at hW' hA0
  refine (walkWordGathers W base enc v0 v1 v2 (hval 0 183 v0 rfl rfl) (hval 1 3 v1 rfl rfl) (hval 2 3 v2 rfl rfl) h0 h1 h2).mono fun e W' ⟨he, hb⟩ => ?_
  subst he
  exact ⟨_, rfl, post_law (pv := []) hW' (fun _ _ _ => (trodAll_cons_mk (shut_bool Try.underlying4 _) trodAll_mk0)) (trodAll_below fr_laid hb _ _ _ _ (by kernel_rfl) (fun x hx => hW'.lt x hx) hA0) (fun _ _ => rfl) (List.append_nil _).symm hb⟩

theorem k0 : (Rows.wordGathersRow.wf (OpenSpec.ofChange Rows.wordGathersSpec) : Bool) = true := by kernel_rfl
theorem k3 : (Try.f22.params.all (Try.prog.readableRec ·) : Bool) = true := by kernel_rfl
theorem k4 : (namedTie Try.prog Rows.wordGathersRow.named Rows.wordGathersSpec.vars : Bool) = true := by kernel_rfl
theorem k5 : ((Rows.wordGathersRow.stops == []) : Bool) = true := by kernel_rfl
theorem k7 : ((Rows.wordGathersRow.knobs == []) : Bool) = true := by kernel_rfl
theorem k9 : ((Rows.wordGathersRow.inPlace == Try.prog.inPlace 22) : Bool) = true := by kernel_rfl
theorem k10 : ((Rows.wordGathersRow.unfollowed == Try.prog.unfollowed 22) : Bool) = true := by kernel_rfl
theorem k11 : ((Rows.wordGathersRow.recurses == Try.prog.recurses 22) : Bool) = true := by kernel_rfl
theorem k12 : ((Rows.wordGathersRow.named == Try.prog.varsNamed 22) : Bool) = true := by kernel_rfl
theorem k13 : ((Rows.wordGathersRow.maps == (Try.f22.params.toList ++ Rows.wordGathersSpec.plain.varTypes Try.prog).any (Try.prog.mapsRec ·)) : Bool) = true := by kernel_rfl
theorem k14 : ((Rows.wordGathersRow.ifaces == (Try.f22.params.toList ++ Rows.wordGathersSpec.plain.varTypes Try.prog).any (Try.prog.ifacesRec ·)) : Bool) = true := by kernel_rfl
theorem k15 : ((Rows.wordGathersRow.mapsOut == Try.prog.mapsAmong Try.f22.resultTypes.toList) : Bool) = true := by kernel_rfl
theorem k16 : ((Rows.wordGathersRow.loops == (Try.f22.params.toList ++ Rows.wordGathersSpec.plain.varTypes Try.prog).any (Try.prog.loopsFrom ·)) : Bool) = true := by kernel_rfl
theorem k17 : ((Rows.wordGathersRow.wideKeys == (Try.f22.params.toList ++ Rows.wordGathersSpec.plain.varTypes Try.prog ++ Try.f22.resultTypes.toList).any (Try.prog.wideKeysFrom ·)) : Bool) = true := by kernel_rfl
theorem k18 : (Rows.wordGathersSpec.vars.all (Try.prog.varReadable ·) : Bool) = true := by kernel_rfl
theorem k19 : (Try.f22.resultTypes.all (fun t => Try.prog.readableRec t && decide (t < Try.prog.types.size)) : Bool) = true := by kernel_rfl
theorem k20 : ((Rows.wordGathersRow.ifacesOut == Try.f22.resultTypes.toList.any (Try.prog.ifacesRec ·)) : Bool) = true := by kernel_rfl
theorem k21 : ((Rows.wordGathersRow.loopsOut == Try.f22.resultTypes.toList.any (Try.prog.loopsFrom ·)) : Bool) = true := by kernel_rfl
theorem k22 : ((Rows.wordGathersRow.plainKeys == Try.prog.plainKeys) : Bool) = true := by kernel_rfl
theorem k23 : (Rows.wordGathersRow.shortTexts.isNone : Bool) = true := by kernel_rfl
theorem k26 : ((Rows.wordGathersRow.lifted == Try.prog.liftsFinal) : Bool) = true := by
  show (Rows.wordGathersRow.lifted == Try.prog.liftsFinal) = true
  rw [fr_lifts]
  kernel_rfl
theorem k27 : ((Try.prog.make == some Rows.wordGathersRow.make) : Bool) = true := by
  show (Try.prog.make == some Rows.wordGathersRow.make) = true
  rw [fr_make]
  kernel_rfl
theorem k28 : ((Rows.wordGathersRow.kinds == (if Rows.wordGathersRow.domain.isEmpty then [] else Try.f22.params.toList.map fun t => match Try.prog.underlying t with | some (.int k) => some k | _ => none)) : Bool) = true := by kernel_rfl
theorem k29 : ((Rows.wordGathersRow.pinned == Rows.wordGathersRow.pinnedBy) : Bool) = true := by kernel_rfl
theorem k30 : ((Rows.wordGathersRow.veiled == (Try.f22.params.toList ++ Rows.wordGathersSpec.plain.varTypes Try.prog ++ Try.f22.resultTypes.toList).any (Try.prog.veiledRec ·)) : Bool) = true := by kernel_rfl
theorem k31 : (Rows.wordGathersRow.veiledFits Try.prog Try.f22.params.toList (Try.f22.params.toList ++ Rows.wordGathersSpec.plain.varTypes Try.prog ++ Try.f22.resultTypes.toList) : Bool) = true := by kernel_rfl
set_option maxRecDepth 100000 in
theorem closed : joinedFacts Try.prog 22 Try.f22 Rows.wordGathersSpec Rows.wordGathersRow = true := (and2 (and2 (and2 (and2 (and2 (and2 (and2 (and2 (and2 (and2 (and2 (and2 (and2 (and2 (and2 (and2 (and2 (and2 (and2 (and2 (and2 (and2 (and2 (and2 (and2 (and2 (and2 (and2 (and2 (and2 (and2 k0 fr_laid) fr_maps) k3) k4) k5) fr_stops) k7) fr_knobs) k9) k10) k11) k12) k13) k14) k15) k16) k17) k18) k19) k20) k21) k22) k23) fr_heard) fr_enter) k26) k27) k28) k29) k30) k31)

theorem over : Rows.wordGathersRow.holds Try.pinned (OpenSpec.ofChange Rows.wordGathersSpec) :=
  OpenClaim.holds_of_wide 22 Try.f22 rfl rfl rfl rfl rfl rfl rfl ⟨rfl, rfl, rfl, rfl, rfl⟩ rfl rfl rfl rfl rfl (by kernel_rfl) Try.func22 closed
    (of_decide_eq_true (by kernel_rfl)) (by unfold Func.isWrapper; first | (rw [if_pos (by decide +kernel)]; kernel_rfl) | (rw [if_neg (by decide +kernel)]; exact ⟨rfl, rfl⟩))
    (fun os started H enc _ => lifted os started H enc)

/-- The statement. -/
theorem proved : Rows.WordGathersSaid :=
  over
end Go.Proofs.Ytdfpenjhpemokaa.lWordGathers
