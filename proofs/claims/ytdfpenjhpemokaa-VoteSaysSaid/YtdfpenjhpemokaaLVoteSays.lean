/-
  The statement 'VoteSaysSaid': for every input the Go function VoteSays returns true, and each argument reads afterwards as it read before. No condition.
-/
import Derived.Test.YtdfpenjhpemokaaWVoteSays
import Derived.Test.YtdfpenjhpemokaaFrame
set_option linter.unusedVariables false
set_option linter.unusedSimpArgs false
namespace Go.Proofs.Ytdfpenjhpemokaa.lVoteSays
open Go.ChangeShapes Go.WideShapes Go.ChangeAt Go.RowKit

set_option maxRecDepth 100000 in
theorem lifted (os : Os) (started : os.Started) (H : Type) (enc : TypeId × Value → H) :
    ReturnsInHanded {} Try.checked os 10 .any (Rows.voteSaysSpec.pre6 enc Try.prog Try.f10 Rows.voteSaysRow.domain false) (Rows.voteSaysSpec.post enc Try.prog Try.f10 false true false false) := by
  refine returnsInHanded_of_change (C := Try.checked) fr_own started (by kernel_rfl) Try.func10
    (ChangeSpec.witness6 (enc := enc) (C := Try.checked) false ⟨#[], #[.agg #[.int .i64 0, .int .i64 0, .int .i64 0, .bool false, .bool false, .bool false, .int .i64 0], .agg #[.int .i64 0, .int .i64 0], .slice none 0 0], []⟩ 8 (by kernel_rfl) (by kernel_rfl) (by kernel_rfl) (by kernel_rfl)) ?_
  intro W base args ds gs before hval0 hW _ _
  have hval : ∀ (j : Nat) t v, Try.f10.params[j]? = some t → args[j]? = some v → Value.okWide Try.prog W .any base t v := hval0
  have hW' := hW
  obtain ⟨p, q, hA0, hV, rfl, _, _⟩ := hW
  have hA : DataW.TrodAll enc Try.prog W 0 (fun _ => true) true Try.f10.params.toList args.toList ds p := hA0
  rw [Try.params10] at hA hval
  obtain ⟨v0, vs0, d0, ds0, p0, q0, hargs, rfl, rfl, h0, r0⟩ := trodAll_cons hA
  obtain ⟨v1, vs1, d1, ds1, p1, q1, rfl, rfl, rfl, h1, r1⟩ := trodAll_cons r0
  obtain ⟨v2, vs2, d2, ds2, p2, q2, rfl, rfl, rfl, h2, r2⟩ := trodAll_cons r1
  obtain ⟨rfl, rfl, rfl⟩ := trodAll_nil r2
  obtain rfl : args = #[v0, v1, v2] := by cases args; simp_all
  obtain ⟨rfl, rfl⟩ := trodVars_none hV
  simp only [List.append_nil] at hW' hA0
  refine (walkVoteSays W base enc v0 v1 v2 (hval 0 97 v0 rfl rfl) (hval 1 99 v1 rfl rfl) (hval 2 100 v2 rfl rfl) h0 h1 h2).mono fun e W' ⟨he, hb⟩ => ?_
  subst he
  exact ⟨_, rfl, post_law (pv := []) hW' (fun _ _ _ => (trodAll_cons_mk (shut_bool Try.underlying4 _) trodAll_mk0)) (trodAll_below fr_laid hb _ _ _ _ (by kernel_rfl) (fun x hx => hW'.lt x hx) hA0) (fun _ _ => rfl) (List.append_nil _).symm hb⟩

theorem k0 : (Rows.voteSaysRow.wf (OpenSpec.ofChange Rows.voteSaysSpec) : Bool) = true := by kernel_rfl
theorem k3 : (Try.f10.params.all (Try.prog.readableRec ·) : Bool) = true := by kernel_rfl
theorem k4 : (namedTie Try.prog Rows.voteSaysRow.named Rows.voteSaysSpec.vars : Bool) = true := by kernel_rfl
theorem k5 : ((Rows.voteSaysRow.stops == []) : Bool) = true := by kernel_rfl
theorem k7 : ((Rows.voteSaysRow.knobs == []) : Bool) = true := by kernel_rfl
theorem k9 : ((Rows.voteSaysRow.inPlace == Try.prog.inPlace 10) : Bool) = true := by kernel_rfl
theorem k10 : ((Rows.voteSaysRow.unfollowed == Try.prog.unfollowed 10) : Bool) = true := by kernel_rfl
theorem k11 : ((Rows.voteSaysRow.recurses == Try.prog.recurses 10) : Bool) = true := by kernel_rfl
theorem k12 : ((Rows.voteSaysRow.named == Try.prog.varsNamed 10) : Bool) = true := by kernel_rfl
theorem k13 : ((Rows.voteSaysRow.maps == (Try.f10.params.toList ++ Rows.voteSaysSpec.plain.varTypes Try.prog).any (Try.prog.mapsRec ·)) : Bool) = true := by kernel_rfl
theorem k14 : ((Rows.voteSaysRow.ifaces == (Try.f10.params.toList ++ Rows.voteSaysSpec.plain.varTypes Try.prog).any (Try.prog.ifacesRec ·)) : Bool) = true := by kernel_rfl
theorem k15 : ((Rows.voteSaysRow.mapsOut == Try.prog.mapsAmong Try.f10.resultTypes.toList) : Bool) = true := by kernel_rfl
theorem k16 : ((Rows.voteSaysRow.loops == (Try.f10.params.toList ++ Rows.voteSaysSpec.plain.varTypes Try.prog).any (Try.prog.loopsFrom ·)) : Bool) = true := by kernel_rfl
theorem k17 : ((Rows.voteSaysRow.wideKeys == (Try.f10.params.toList ++ Rows.voteSaysSpec.plain.varTypes Try.prog ++ Try.f10.resultTypes.toList).any (Try.prog.wideKeysFrom ·)) : Bool) = true := by kernel_rfl
theorem k18 : (Rows.voteSaysSpec.vars.all (Try.prog.varReadable ·) : Bool) = true := by kernel_rfl
theorem k19 : (Try.f10.resultTypes.all (fun t => Try.prog.readableRec t && decide (t < Try.prog.types.size)) : Bool) = true := by kernel_rfl
theorem k20 : ((Rows.voteSaysRow.ifacesOut == Try.f10.resultTypes.toList.any (Try.prog.ifacesRec ·)) : Bool) = true := by kernel_rfl
theorem k21 : ((Rows.voteSaysRow.loopsOut == Try.f10.resultTypes.toList.any (Try.prog.loopsFrom ·)) : Bool) = true := by kernel_rfl
theorem k22 : ((Rows.voteSaysRow.plainKeys == Try.prog.plainKeys) : Bool) = true := by kernel_rfl
theorem k23 : (Rows.voteSaysRow.shortTexts.isNone : Bool) = true := by kernel_rfl
theorem k26 : ((Rows.voteSaysRow.lifted == Try.prog.liftsFinal) : Bool) = true := by
  show (Rows.voteSaysRow.lifted == Try.prog.liftsFinal) = true
  rw [fr_lifts]
  kernel_rfl
theorem k27 : ((Try.prog.make == some Rows.voteSaysRow.make) : Bool) = true := by
  show (Try.prog.make == some Rows.voteSaysRow.make) = true
  rw [fr_make]
  kernel_rfl
theorem k28 : ((Rows.voteSaysRow.kinds == (if Rows.voteSaysRow.domain.isEmpty then [] else Try.f10.params.toList.map fun t => match Try.prog.underlying t with | some (.int k) => some k | _ => none)) : Bool) = true := by kernel_rfl
theorem k29 : ((Rows.voteSaysRow.pinned == Rows.voteSaysRow.pinnedBy) : Bool) = true := by kernel_rfl
theorem k30 : ((Rows.voteSaysRow.veiled == (Try.f10.params.toList ++ Rows.voteSaysSpec.plain.varTypes Try.prog ++ Try.f10.resultTypes.toList).any (Try.prog.veiledRec ·)) : Bool) = true := by kernel_rfl
theorem k31 : (Rows.voteSaysRow.veiledFits Try.prog Try.f10.params.toList (Try.f10.params.toList ++ Rows.voteSaysSpec.plain.varTypes Try.prog ++ Try.f10.resultTypes.toList) : Bool) = true := by kernel_rfl
set_option maxRecDepth 100000 in
theorem closed : joinedFacts Try.prog 10 Try.f10 Rows.voteSaysSpec Rows.voteSaysRow = true := (and2 (and2 (and2 (and2 (and2 (and2 (and2 (and2 (and2 (and2 (and2 (and2 (and2 (and2 (and2 (and2 (and2 (and2 (and2 (and2 (and2 (and2 (and2 (and2 (and2 (and2 (and2 (and2 (and2 (and2 (and2 k0 fr_laid) fr_maps) k3) k4) k5) fr_stops) k7) fr_knobs) k9) k10) k11) k12) k13) k14) k15) k16) k17) k18) k19) k20) k21) k22) k23) fr_heard) fr_enter) k26) k27) k28) k29) k30) k31)

theorem over : Rows.voteSaysRow.holds Try.pinned (OpenSpec.ofChange Rows.voteSaysSpec) :=
  OpenClaim.holds_of_wide 10 Try.f10 rfl rfl rfl rfl rfl rfl rfl ⟨rfl, rfl, rfl, rfl, rfl⟩ rfl rfl rfl rfl rfl (by kernel_rfl) Try.func10 closed
    (of_decide_eq_true (by kernel_rfl)) (by unfold Func.isWrapper; first | (rw [if_pos (by decide +kernel)]; kernel_rfl) | (rw [if_neg (by decide +kernel)]; exact ⟨rfl, rfl⟩))
    (fun os started H enc _ => lifted os started H enc)

/-- The statement. -/
theorem proved : Rows.VoteSaysSaid :=
  over
end Go.Proofs.Ytdfpenjhpemokaa.lVoteSays
