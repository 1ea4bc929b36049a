/-
  The statement 'WordReadsSaid': for every input the Go function WordReads returns true, and each argument reads afterwards as it read before. No condition.
-/
import Derived.Test.YtdfpenjhpemokaaWWordReads
import Derived.Test.YtdfpenjhpemokaaFrame
namespace Go.Proofs.Ytdfpenjhpemokaa.lWordReads
open Go.ChangeShapes Go.WideShapes Go.ChangeAt Go.RowKit

set_option maxRecDepth 100000 in
theorem lifted (os : Os) (started : os.Started) (H : Type) (enc : TypeId × Value → H) :
    ReturnsInHanded {} Try.checked os 3 .any (Rows.wordReadsSpec.pre6 enc Try.prog Try.f3 Rows.wordReadsRow.domain false) (Rows.wordReadsSpec.post enc Try.prog Try.f3 false true false false) := by
  refine returnsInHanded_of_change (C := Try.checked) fr_own started (by kernel_rfl) Try.func3
    (ChangeSpec.witness6 (enc := enc) (C := Try.checked) false ⟨#[], #[.int .u32 0], []⟩ 8 (by kernel_rfl) (by kernel_rfl) (by kernel_rfl) (by kernel_rfl)) ?_
  intro W base args ds gs before hval0 hW _ _
  have hval : ∀ (j : Nat) t v, Try.f3.params[j]? = some t → args[j]? = some v → Value.okWide Try.prog W .any base t v := hval0
  have hW' := hW
  obtain ⟨p, q, hA0, hV, rfl, _, _⟩ := hW
  have hA : DataW.TrodAll enc Try.prog W 0 (fun _ => true) true Try.f3.params.toList args.toList ds p := hA0
  rw [Try.params3] at hA hval
  obtain ⟨v0, vs0, d0, ds0, p0, q0, hargs, rfl, rfl, h0, r0⟩ := trodAll_cons hA
  obtain ⟨rfl, rfl, rfl⟩ := trodAll_nil r0
  obtain rfl : args = #[v0] := by cases args; simp_all
  obtain ⟨rfl, rfl⟩ := trodVars_none hV
  simp only [List.append_nil] at hW' hA0
  obtain ⟨x0, rfl, bx0⟩ := okWide_u32 Try.underlying22 (hval 0 22 v0 rfl rfl)
  refine (WordReads_core x0 bx0 W).mono fun e W' ⟨he, hb⟩ => ?_
  subst he
  exact ⟨_, rfl, post_law (pv := []) hW' (fun _ _ _ => (trodAll_cons_mk (shut_bool Try.underlying4 _) trodAll_mk0)) (trodAll_below fr_laid hb _ _ _ _ (by kernel_rfl) (fun x hx => hW'.lt x hx) hA0) (fun _ _ => rfl) (List.append_nil _).symm hb⟩

theorem k0 : (Rows.wordReadsRow.wf (OpenSpec.ofChange Rows.wordReadsSpec) : Bool) = true := by kernel_rfl
theorem k3 : (Try.f3.params.all (Try.prog.readableRec ·) : Bool) = true := by kernel_rfl
theorem k4 : (namedTie Try.prog Rows.wordReadsRow.named Rows.wordReadsSpec.vars : Bool) = true := by kernel_rfl
theorem k5 : ((Rows.wordReadsRow.stops == []) : Bool) = true := by kernel_rfl
theorem k7 : ((Rows.wordReadsRow.knobs == []) : Bool) = true := by kernel_rfl
theorem k9 : ((Rows.wordReadsRow.inPlace == Try.prog.inPlace 3) : Bool) = true := by kernel_rfl
theorem k10 : ((Rows.wordReadsRow.unfollowed == Try.prog.unfollowed 3) : Bool) = true := by kernel_rfl
theorem k11 : ((Rows.wordReadsRow.recurses == Try.prog.recurses 3) : Bool) = true := by kernel_rfl
theorem k12 : ((Rows.wordReadsRow.named == Try.prog.varsNamed 3) : Bool) = true := by kernel_rfl
theorem k13 : ((Rows.wordReadsRow.maps == (Try.f3.params.toList ++ Rows.wordReadsSpec.plain.varTypes Try.prog).any (Try.prog.mapsRec ·)) : Bool) = true := by kernel_rfl
theorem k14 : ((Rows.wordReadsRow.ifaces == (Try.f3.params.toList ++ Rows.wordReadsSpec.plain.varTypes Try.prog).any (Try.prog.ifacesRec ·)) : Bool) = true := by kernel_rfl
theorem k15 : ((Rows.wordReadsRow.mapsOut == Try.prog.mapsAmong Try.f3.resultTypes.toList) : Bool) = true := by kernel_rfl
theorem k16 : ((Rows.wordReadsRow.loops == (Try.f3.params.toList ++ Rows.wordReadsSpec.plain.varTypes Try.prog).any (Try.prog.loopsFrom ·)) : Bool) = true := by kernel_rfl
theorem k17 : ((Rows.wordReadsRow.wideKeys == (Try.f3.params.toList ++ Rows.wordReadsSpec.plain.varTypes Try.prog ++ Try.f3.resultTypes.toList).any (Try.prog.wideKeysFrom ·)) : Bool) = true := by kernel_rfl
theorem k18 : (Rows.wordReadsSpec.vars.all (Try.prog.varReadable ·) : Bool) = true := by kernel_rfl
theorem k19 : (Try.f3.resultTypes.all (fun t => Try.prog.readableRec t && decide (t < Try.prog.types.size)) : Bool) = true := by kernel_rfl
theorem k20 : ((Rows.wordReadsRow.ifacesOut == Try.f3.resultTypes.toList.any (Try.prog.ifacesRec ·)) : Bool) = true := by kernel_rfl
theorem k21 : ((Rows.wordReadsRow.loopsOut == Try.f3.resultTypes.toList.any (Try.prog.loopsFrom ·)) : Bool) = true := by kernel_rfl
theorem k22 : ((Rows.wordReadsRow.plainKeys == Try.prog.plainKeys) : Bool) = true := by kernel_rfl
theorem k23 : (Rows.wordReadsRow.shortTexts.isNone : Bool) = true := by kernel_rfl
theorem k26 : ((Rows.wordReadsRow.lifted == Try.prog.liftsFinal) : Bool) = true := by
  show (Rows.wordReadsRow.lifted == Try.prog.liftsFinal) = true
  rw [fr_lifts]
  kernel_rfl
theorem k27 : ((Try.prog.make == some Rows.wordReadsRow.make) : Bool) = true := by
  show (Try.prog.make == some Rows.wordReadsRow.make) = true
  rw [fr_make]
  kernel_rfl
theorem k28 : ((Rows.wordReadsRow.kinds == (if Rows.wordReadsRow.domain.isEmpty then [] else Try.f3.params.toList.map fun t => match Try.prog.underlying t with | some (.int k) => some k | _ => none)) : Bool) = true := by kernel_rfl
theorem k29 : ((Rows.wordReadsRow.pinned == Rows.wordReadsRow.pinnedBy) : Bool) = true := by kernel_rfl
theorem k30 : ((Rows.wordReadsRow.veiled == (Try.f3.params.toList ++ Rows.wordReadsSpec.plain.varTypes Try.prog ++ Try.f3.resultTypes.toList).any (Try.prog.veiledRec ·)) : Bool) = true := by kernel_rfl
theorem k31 : (Rows.wordReadsRow.veiledFits Try.prog Try.f3.params.toList (Try.f3.params.toList ++ Rows.wordReadsSpec.plain.varTypes Try.prog ++ Try.f3.resultTypes.toList) : Bool) = true := by kernel_rfl
set_option maxRecDepth 100000 in
theorem closed : joinedFacts Try.prog 3 Try.f3 Rows.wordReadsSpec Rows.wordReadsRow = true := (and2 (and2 (and2 (and2 (and2 (and2 (and2 (and2 (and2 (and2 (and2 (and2 (and2 (and2 (and2 (and2 (and2 (and2 (and2 (and2 (and2 (and2 (and2 (and2 (and2 (and2 (and2 (and2 (and2 (and2 (and2 k0 fr_laid) fr_maps) k3) k4) k5) fr_stops) k7) fr_knobs) k9) k10) k11) k12) k13) k14) k15) k16) k17) k18) k19) k20) k21) k22) k23) fr_heard) fr_enter) k26) k27) k28) k29) k30) k31)

theorem over : Rows.wordReadsRow.holds Try.pinned (OpenSpec.ofChange Rows.wordReadsSpec) :=
  OpenClaim.holds_of_wide 3 Try.f3 rfl rfl rfl rfl rfl rfl rfl ⟨rfl, rfl, rfl, rfl, rfl⟩ rfl rfl rfl rfl rfl (by kernel_rfl) Try.func3 closed
    (of_decide_eq_true (by kernel_rfl)) (by unfold Func.isWrapper; first | (rw [if_pos (by decide +kernel)]; kernel_rfl) | (rw [if_neg (by decide +kernel)]; exact ⟨rfl, rfl⟩))
    (fun os started H enc _ => lifted os started H enc)

/-- The statement. -/
theorem proved : Rows.WordReadsSaid :=
  over
end Go.Proofs.Ytdfpenjhpemokaa.lWordReads
