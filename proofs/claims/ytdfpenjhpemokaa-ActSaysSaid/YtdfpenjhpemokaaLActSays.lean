/-
  The statement 'ActSaysSaid': for every input the Go function ActSays returns true, and each argument reads afterwards as it read before. No condition.
-/
import Derived.Test.YtdfpenjhpemokaaWActSays
import Derived.Test.YtdfpenjhpemokaaFrame
namespace Go.Proofs.Ytdfpenjhpemokaa.lActSays
open Go.ChangeShapes Go.WideShapes Go.ChangeAt Go.RowKit

set_option maxRecDepth 100000 in
theorem lifted (os : Os) (started : os.Started) (H : Type) (enc : TypeId × Value → H) :
    ReturnsInHanded {} Try.checked os 6 .any (Rows.actSaysSpec.pre6 enc Try.prog Try.f6 Rows.actSaysRow.domain false) (Rows.actSaysSpec.post enc Try.prog Try.f6 false true false false) := by
  refine returnsInHanded_of_change (C := Try.checked) fr_own started (by kernel_rfl) Try.func6
    (ChangeSpec.witness6 (enc := enc) (C := Try.checked) false ⟨#[], #[.agg #[.int .i64 0, .int .i64 0, .int .i64 0, .int .i64 0], .agg #[.int .i64 0, .int .i64 0, .bool false], .agg #[.bool false, .int .i64 0], .int .i64 0], []⟩ 8 (by kernel_rfl) (by kernel_rfl) (by kernel_rfl) (by kernel_rfl)) ?_
  intro W base args ds gs before hval0 hW _ _
  have hval : ∀ (j : Nat) t v, Try.f6.params[j]? = some t → args[j]? = some v → Value.okWide Try.prog W .any base t v := hval0
  have hW' := hW
  obtain ⟨p, q, hA0, hV, rfl, _, _⟩ := hW
  have hA : DataW.TrodAll enc Try.prog W 0 (fun _ => true) true Try.f6.params.toList args.toList ds p := hA0
  rw [Try.params6] at hA hval
  obtain ⟨v0, vs0, d0, ds0, p0, q0, hargs, rfl, rfl, h0, r0⟩ := trodAll_cons hA
  obtain ⟨v1, vs1, d1, ds1, p1, q1, rfl, rfl, rfl, h1, r1⟩ := trodAll_cons r0
  obtain ⟨v2, vs2, d2, ds2, p2, q2, rfl, rfl, rfl, h2, r2⟩ := trodAll_cons r1
  obtain ⟨v3, vs3, d3, ds3, p3, q3, rfl, rfl, rfl, h3, r3⟩ := trodAll_cons r2
  obtain ⟨rfl, rfl, rfl⟩ := trodAll_nil r3
  obtain rfl : args = #[v0, v1, v2, v3] := by cases args; simp_all
  obtain ⟨rfl, rfl⟩ := trodVars_none hV
  simp only [List.append_nil] at hW' hA0
  obtain ⟨cs0_0, rfl, hf0_0⟩ := flat_open [3, 3, 3, 3] Try.underlying53 (by kernel_rfl) (by kernel_rfl) (hval 0 53 v0 rfl rfl)
  obtain ⟨c0_0, cs0_1, rfl, hc0_0, hf0_1⟩ := okCells_cons hf0_0
  obtain ⟨x0, rfl, bx0⟩ := cell_int Try.underlying3 hc0_0
  obtain ⟨c0_1, cs0_2, rfl, hc0_1, hf0_2⟩ := okCells_cons hf0_1
  obtain ⟨x1, rfl, bx1⟩ := cell_int Try.underlying3 hc0_1
  obtain ⟨c0_2, cs0_3, rfl, hc0_2, hf0_3⟩ := okCells_cons hf0_2
  obtain ⟨x2, rfl, bx2⟩ := cell_int Try.underlying3 hc0_2
  obtain ⟨c0_3, cs0_4, rfl, hc0_3, hf0_4⟩ := okCells_cons hf0_3
  obtain ⟨x3, rfl, bx3⟩ := cell_int Try.underlying3 hc0_3
  obtain rfl := okCells_nil hf0_4
  obtain ⟨cs1_0, rfl, hf1_0⟩ := flat_open [3, 3, 4] Try.underlying55 (by kernel_rfl) (by kernel_rfl) (hval 1 55 v1 rfl rfl)
  obtain ⟨c1_0, cs1_1, rfl, hc1_0, hf1_1⟩ := okCells_cons hf1_0
  obtain ⟨x4, rfl, bx4⟩ := cell_int Try.underlying3 hc1_0
  obtain ⟨c1_1, cs1_2, rfl, hc1_1, hf1_2⟩ := okCells_cons hf1_1
  obtain ⟨x5, rfl, bx5⟩ := cell_int Try.underlying3 hc1_1
  obtain ⟨c1_2, cs1_3, rfl, hc1_2, hf1_3⟩ := okCells_cons hf1_2
  obtain ⟨x6, rfl⟩ := cell_bool Try.underlying4 hc1_2
  obtain rfl := okCells_nil hf1_3
  obtain ⟨cs2_0, rfl, hf2_0⟩ := flat_open [4, 3] Try.underlying57 (by kernel_rfl) (by kernel_rfl) (hval 2 57 v2 rfl rfl)
  obtain ⟨c2_0, cs2_1, rfl, hc2_0, hf2_1⟩ := okCells_cons hf2_0
  obtain ⟨x7, rfl⟩ := cell_bool Try.underlying4 hc2_0
  obtain ⟨c2_1, cs2_2, rfl, hc2_1, hf2_2⟩ := okCells_cons hf2_1
  obtain ⟨x8, rfl, bx8⟩ := cell_int Try.underlying3 hc2_1
  obtain rfl := okCells_nil hf2_2
  obtain ⟨x9, rfl, bx9⟩ := okWide_int Try.underlying3 (hval 3 3 v3 rfl rfl)
  refine (ActSays_core x0 x1 x2 x3 x4 x5 x6 x7 x8 x9 bx0 bx1 bx2 bx3 bx4 bx5 bx8 bx9 W).mono fun e W' ⟨he, hb⟩ => ?_
  subst he
  exact ⟨_, rfl, post_law (pv := []) hW' (fun _ _ _ => (trodAll_cons_mk (shut_bool Try.underlying4 _) trodAll_mk0)) (trodAll_below fr_laid hb _ _ _ _ (by kernel_rfl) (fun x hx => hW'.lt x hx) hA0) (fun _ _ => rfl) (List.append_nil _).symm hb⟩

theorem k0 : (fun (P : Program) (f : FuncId) (fn : Func) (s : ChangeSpec) (c : OpenClaim) => (c.wf (OpenSpec.ofChange s) : Bool)) Try.prog 6 Try.f6 Rows.actSaysSpec Rows.actSaysRow = true := by kernel_rfl
theorem k3 : (fun (P : Program) (f : FuncId) (fn : Func) (s : ChangeSpec) (c : OpenClaim) => (fn.params.all (P.readableRec ·) : Bool)) Try.prog 6 Try.f6 Rows.actSaysSpec Rows.actSaysRow = true := by kernel_rfl
theorem k4 : (fun (P : Program) (f : FuncId) (fn : Func) (s : ChangeSpec) (c : OpenClaim) => (namedTie P c.named s.vars : Bool)) Try.prog 6 Try.f6 Rows.actSaysSpec Rows.actSaysRow = true := by kernel_rfl
theorem k5 : (fun (P : Program) (f : FuncId) (fn : Func) (s : ChangeSpec) (c : OpenClaim) => ((c.stops == []) : Bool)) Try.prog 6 Try.f6 Rows.actSaysSpec Rows.actSaysRow = true := by kernel_rfl
theorem k7 : (fun (P : Program) (f : FuncId) (fn : Func) (s : ChangeSpec) (c : OpenClaim) => ((c.knobs == []) : Bool)) Try.prog 6 Try.f6 Rows.actSaysSpec Rows.actSaysRow = true := by kernel_rfl
theorem k9 : (fun (P : Program) (f : FuncId) (fn : Func) (s : ChangeSpec) (c : OpenClaim) => ((c.inPlace == P.inPlace f) : Bool)) Try.prog 6 Try.f6 Rows.actSaysSpec Rows.actSaysRow = true := by kernel_rfl
theorem k10 : (fun (P : Program) (f : FuncId) (fn : Func) (s : ChangeSpec) (c : OpenClaim) => ((c.unfollowed == P.unfollowed f) : Bool)) Try.prog 6 Try.f6 Rows.actSaysSpec Rows.actSaysRow = true := by kernel_rfl
theorem k11 : (fun (P : Program) (f : FuncId) (fn : Func) (s : ChangeSpec) (c : OpenClaim) => ((c.recurses == P.recurses f) : Bool)) Try.prog 6 Try.f6 Rows.actSaysSpec Rows.actSaysRow = true := by kernel_rfl
theorem k12 : (fun (P : Program) (f : FuncId) (fn : Func) (s : ChangeSpec) (c : OpenClaim) => ((c.named == P.varsNamed f) : Bool)) Try.prog 6 Try.f6 Rows.actSaysSpec Rows.actSaysRow = true := by kernel_rfl
theorem k13 : (fun (P : Program) (f : FuncId) (fn : Func) (s : ChangeSpec) (c : OpenClaim) => ((c.maps == (fn.params.toList ++ s.plain.varTypes P).any (P.mapsRec ·)) : Bool)) Try.prog 6 Try.f6 Rows.actSaysSpec Rows.actSaysRow = true := by kernel_rfl
theorem k14 : (fun (P : Program) (f : FuncId) (fn : Func) (s : ChangeSpec) (c : OpenClaim) => ((c.ifaces == (fn.params.toList ++ s.plain.varTypes P).any (P.ifacesRec ·)) : Bool)) Try.prog 6 Try.f6 Rows.actSaysSpec Rows.actSaysRow = true := by kernel_rfl
theorem k15 : (fun (P : Program) (f : FuncId) (fn : Func) (s : ChangeSpec) (c : OpenClaim) => ((c.mapsOut == P.mapsAmong fn.resultTypes.toList) : Bool)) Try.prog 6 Try.f6 Rows.actSaysSpec Rows.actSaysRow = true := by kernel_rfl
theorem k16 : (fun (P : Program) (f : FuncId) (fn : Func) (s : ChangeSpec) (c : OpenClaim) => ((c.loops == (fn.params.toList ++ s.plain.varTypes P).any (P.loopsFrom ·)) : Bool)) Try.prog 6 Try.f6 Rows.actSaysSpec Rows.actSaysRow = true := by kernel_rfl
theorem k17 : (fun (P : Program) (f : FuncId) (fn : Func) (s : ChangeSpec) (c : OpenClaim) => ((c.wideKeys == (fn.params.toList ++ s.plain.varTypes P ++ fn.resultTypes.toList).any (P.wideKeysFrom ·)) : Bool)) Try.prog 6 Try.f6 Rows.actSaysSpec Rows.actSaysRow = true := by kernel_rfl
theorem k18 : (fun (P : Program) (f : FuncId) (fn : Func) (s : ChangeSpec) (c : OpenClaim) => (s.vars.all (P.varReadable ·) : Bool)) Try.prog 6 Try.f6 Rows.actSaysSpec Rows.actSaysRow = true := by kernel_rfl
theorem k19 : (fun (P : Program) (f : FuncId) (fn : Func) (s : ChangeSpec) (c : OpenClaim) => (fn.resultTypes.all (fun t => P.readableRec t && decide (t < P.types.size)) : Bool)) Try.prog 6 Try.f6 Rows.actSaysSpec Rows.actSaysRow = true := by kernel_rfl
theorem k20 : (fun (P : Program) (f : FuncId) (fn : Func) (s : ChangeSpec) (c : OpenClaim) => ((c.ifacesOut == fn.resultTypes.toList.any (P.ifacesRec ·)) : Bool)) Try.prog 6 Try.f6 Rows.actSaysSpec Rows.actSaysRow = true := by kernel_rfl
theorem k21 : (fun (P : Program) (f : FuncId) (fn : Func) (s : ChangeSpec) (c : OpenClaim) => ((c.loopsOut == fn.resultTypes.toList.any (P.loopsFrom ·)) : Bool)) Try.prog 6 Try.f6 Rows.actSaysSpec Rows.actSaysRow = true := by kernel_rfl
theorem k22 : (fun (P : Program) (f : FuncId) (fn : Func) (s : ChangeSpec) (c : OpenClaim) => ((c.plainKeys == P.plainKeys) : Bool)) Try.prog 6 Try.f6 Rows.actSaysSpec Rows.actSaysRow = true := by kernel_rfl
theorem k23 : (fun (P : Program) (f : FuncId) (fn : Func) (s : ChangeSpec) (c : OpenClaim) => (c.shortTexts.isNone : Bool)) Try.prog 6 Try.f6 Rows.actSaysSpec Rows.actSaysRow = true := by kernel_rfl
theorem k26 : (fun (P : Program) (f : FuncId) (fn : Func) (s : ChangeSpec) (c : OpenClaim) => ((c.lifted == P.liftsFinal) : Bool)) Try.prog 6 Try.f6 Rows.actSaysSpec Rows.actSaysRow = true := by
  show (Rows.actSaysRow.lifted == Try.prog.liftsFinal) = true
  rw [fr_lifts]
  kernel_rfl
theorem k27 : (fun (P : Program) (f : FuncId) (fn : Func) (s : ChangeSpec) (c : OpenClaim) => ((P.make == some c.make) : Bool)) Try.prog 6 Try.f6 Rows.actSaysSpec Rows.actSaysRow = true := by
  show (Try.prog.make == some Rows.actSaysRow.make) = true
  rw [fr_make]
  kernel_rfl
theorem k28 : (fun (P : Program) (f : FuncId) (fn : Func) (s : ChangeSpec) (c : OpenClaim) => ((c.kinds == (if c.domain.isEmpty then [] else fn.params.toList.map fun t => match P.underlying t with | some (.int k) => some k | _ => none)) : Bool)) Try.prog 6 Try.f6 Rows.actSaysSpec Rows.actSaysRow = true := by kernel_rfl
theorem k29 : (fun (P : Program) (f : FuncId) (fn : Func) (s : ChangeSpec) (c : OpenClaim) => ((c.pinned == c.pinnedBy) : Bool)) Try.prog 6 Try.f6 Rows.actSaysSpec Rows.actSaysRow = true := by kernel_rfl
theorem k30 : (fun (P : Program) (f : FuncId) (fn : Func) (s : ChangeSpec) (c : OpenClaim) => ((c.veiled == (fn.params.toList ++ s.plain.varTypes P ++ fn.resultTypes.toList).any (P.veiledRec ·)) : Bool)) Try.prog 6 Try.f6 Rows.actSaysSpec Rows.actSaysRow = true := by kernel_rfl
theorem k31 : (fun (P : Program) (f : FuncId) (fn : Func) (s : ChangeSpec) (c : OpenClaim) => (c.veiledFits P fn.params.toList (fn.params.toList ++ s.plain.varTypes P ++ fn.resultTypes.toList) : Bool)) Try.prog 6 Try.f6 Rows.actSaysSpec Rows.actSaysRow = true := by kernel_rfl
set_option maxRecDepth 100000 in
theorem closed : joinedFacts Try.prog 6 Try.f6 Rows.actSaysSpec Rows.actSaysRow = true := (and2 (and2 (and2 (and2 (and2 (and2 (and2 (and2 (and2 (and2 (and2 (and2 (and2 (and2 (and2 (and2 (and2 (and2 (and2 (and2 (and2 (and2 (and2 (and2 (and2 (and2 (and2 (and2 (and2 (and2 (and2 k0 fr_laid) fr_maps) k3) k4) k5) fr_stops) k7) fr_knobs) k9) k10) k11) k12) k13) k14) k15) k16) k17) k18) k19) k20) k21) k22) k23) fr_heard) fr_enter) k26) k27) k28) k29) k30) k31)

theorem over : Rows.actSaysRow.holds Try.pinned (OpenSpec.ofChange Rows.actSaysSpec) :=
  OpenClaim.holds_of_wide 6 Try.f6 rfl rfl rfl rfl rfl rfl rfl ⟨rfl, rfl, rfl, rfl, rfl⟩ rfl rfl rfl rfl rfl (by kernel_rfl) Try.func6 closed
    (of_decide_eq_true (by kernel_rfl)) (by unfold Func.isWrapper; first | (rw [if_pos (by decide +kernel)]; kernel_rfl) | (rw [if_neg (by decide +kernel)]; exact ⟨rfl, rfl⟩))
    (fun os started H enc _ => lifted os started H enc)

/-- The statement. -/
theorem proved : Rows.ActSaysSaid :=
  over
end Go.Proofs.Ytdfpenjhpemokaa.lActSays
