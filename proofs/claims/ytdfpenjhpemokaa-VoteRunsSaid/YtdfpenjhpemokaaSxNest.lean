/-
  A verified symbolic executor: contracts that read given slices; slices of slices among the arguments.
-/
import Derived.Test.YtdfpenjhpemokaaSxSame
set_option linter.unusedVariables false
set_option linter.unusedSimpArgs false
namespace Go.Proofs.Ytdfpenjhpemokaa.Sx
open Go.RowKit

def R.in64 (r : R) : Bool := decide (-9223372036854775808 ≤ r.lo) && decide (r.hi ≤ 9223372036854775807)
theorem R.in64_ok {r : R} (h : r.in64 = true) {ρ : Env} (hr : r.ok ρ) : B64 (r.e.i ρ) := by
  simp only [R.in64, Bool.and_eq_true, decide_eq_true_eq] at h
  have h1 := hr.1
  have h2 := hr.2
  unfold B64
  omega
/-- A contract of a call that only computes and reads what is given. -/
def argSum (k : FuncId) (p : List SV → Option (List E × SV)) : Handler := fun pc f args H nx =>
  if Nat.beq f k then match p args with
    | some (gs, v) => some (.leaf ⟨v, H, nx⟩, gs.map fun g => ⟨pc, g⟩)
    | none => none
  else none
theorem argSum_ok {P : Program} {ρ : Env} {k : FuncId} {p : List SV → Option (List E × SV)}
    (h : ∀ args gs v, p args = some (gs, v) → (∀ g ∈ gs, g.b ρ = true) → ∀ b base w N, SV.okL ρ N args → Mem ρ base w → (∀ k, base k → k < w.heap.size) → Calls P k (SV.denL ρ b args).toArray w fun e w' => e = .returned (v.den ρ b) ∧ v.ok ρ N ∧ Below w.heap.size w w') : HOK P ρ (argSum k p) := by
  intro pc f args H nx r vs hs hpc hv b base w0 w hH hmem hbel hbase hargs
  unfold argSum at hs
  split at hs
  · rename_i hk
    have := Nat.eq_of_beq_eq_true hk
    subst this
    split at hs
    · rename_i gs v hp
      cases hs
      have hg : ∀ g ∈ gs, g.b ρ = true := fun g hg => hv ⟨pc, g⟩ (List.mem_map.2 ⟨g, hg, rfl⟩) hpc
      refine (h args gs v hp hg b base w _ hargs (hmem.kept hbel) hbase).mono ?_
      rintro e w' ⟨h1, h2, h3⟩
      exact ⟨b, h1, Agree.refl b _, hH.mono (Agree.refl b _) (fun _ h => h) (fun k hk => h3.block k hk) hbase, h2, hbel.trans ((Kept.of h3).mono hbase), fun k hk => Nat.lt_of_lt_of_le (hbase k hk) h3.size, Nat.le_refl _⟩
    · cases hs
  · cases hs

/-- A slice of slices that is given. -/
structure ND where
  A : Option Addr
  c : Nat
  n : Nat
  g : Nat → GD
structure ND.ok (d : ND) (w : World) (ks : List Bool) : Prop where
  n : d.n ≤ 9223372036854775807
  cell : ∀ i, i < d.n → ∃ bl off, d.A = some ⟨bl, off, none⟩ ∧ bl < w.heap.size ∧ w.cell? ⟨bl, off + i, none⟩ = some (.slice (d.g i).A (d.g i).n (d.g i).c)
  g : ∀ i, (d.g i).ok w ∧ (d.g i).ks = ks
/-- Given slice 0 is one of slices. -/
def nestEnv (et : TypeId) (iv : Nat → Int) (bv : Nat → Bool) (fn : Nat → List Int → Int) (fb : Nat → List Int → Bool) (fl : Nat → List Int → List Int) (d : ND) : Env where
  iv := iv
  bv := bv
  fn := fun id l => if id = 1000 then (d.g (l.headD 0).toNat).n else fn id l
  fb := fb
  et := et
  ov := fun k => if k = 0 then (d.A, d.c) else (none, 0)
  fl := fl
  mv := fun k => if k = 0 then cellsF d.n 1 (fun i _ => .slice (d.g i).A (d.g i).n (d.g i).c) else []
  es := fun id i => if id = 1000 then ((d.g i.toNat).A, (d.g i.toNat).n, (d.g i.toNat).c) else (none, 0, 0)
  ol := fun k => if k = 0 then d.n else 0
  mn := fun id i => if id = 1000 then cellsF (d.g i.toNat).n (d.g i.toNat).ks.length (d.g i.toNat).val else []
theorem nest_mem {et : TypeId} {iv : Nat → Int} {bv : Nat → Bool} {fn : Nat → List Int → Int} {fb : Nat → List Int → Bool} {fl : Nat → List Int → List Int} {d : ND} {w : World} {ks : List Bool} (h : d.ok w ks) : Mem (nestEnv et iv bv fn fb fl d) (· < w.heap.size) w := by
  refine ⟨fun k i v hv => ?_, fun k i q v hv => ?_⟩
  · simp only [nestEnv] at hv ⊢
    split at hv
    · rename_i hk
      obtain ⟨h1, h2, h3, h4⟩ := cellsF_of hv
      rw [Nat.div_one] at h1 h3
      obtain ⟨bl, off, e1, e2, e3⟩ := h.cell _ h1
      rw [if_pos hk]
      exact ⟨bl, off, e1, e2, by rw [h3]; exact e3⟩
    · cases hv
  · simp only [nestEnv] at hv ⊢
    split at hv
    · rename_i hk
      obtain ⟨h1, h2, h3, h4⟩ := cellsF_of hv
      obtain ⟨bl, off, e1, e2, e3⟩ := (h.g i.toNat).1.cell _ _ h1 h2
      rw [if_pos hk]
      exact ⟨bl, off, e1, e2, by rw [h4, h3]; exact e3⟩
    · cases hv
theorem nest_osl {et : TypeId} {iv : Nat → Int} {bv : Nat → Bool} {fn : Nat → List Int → Int} {fb : Nat → List Int → Bool} {fl : Nat → List Int → List Int} {d : ND} {w : World} {ks : List Bool} (h : d.ok w ks) {m : Nat} (hm : iv m = d.n) (N : Nat → Prop) (b : Bd) :
    (SV.osl 0 [.slc] ⟨.v m, 0, 9223372036854775807⟩).ok (nestEnv et iv bv fn fb fl d) N ∧ (SV.osl 0 [.slc] ⟨.v m, 0, 9223372036854775807⟩).den (nestEnv et iv bv fn fb fl d) b = .slice d.A d.n d.c := by
  have hv : (nestEnv et iv bv fn fb fl d).iv m = d.n := hm
  refine ⟨⟨⟨?_, ?_⟩, Int.le_refl _, fun i hi => ?_, by simp [E.i, nestEnv, hm]⟩, ?_⟩
  · simp only [E.i, hv]; omega
  · have := h.n; simp only [E.i, hv]; omega
  · simp only [E.i, hv] at hi
    intro j c hc
    match j, hc with
    | 0, hc =>
      cases hc
      refine ⟨?_, ?_, ?_⟩
      · have e : (nestEnv et iv bv fn fb fl d).mv 0 = cellsF d.n 1 (fun i _ => .slice (d.g i).A (d.g i).n (d.g i).c) := by simp [nestEnv]
        rw [e, show [CK.slc].length = 1 from rfl, cellsF_get (by omega) (by decide)]
        simp [CK.val, Env.slc, nestEnv, CK.fid]
      · simp [nestEnv, CK.fid]
      · have := (h.g i).1.n
        simpa [nestEnv, CK.fid] using this
  · simp only [SV.den, E.i, nestEnv, hm, Int.toNat_natCast, if_true]
open Go.ChangeShapes Go.WideShapes Go.ChangeAt Go.Deep in
set_option maxRecDepth 100000 in
theorem nest_open {H : Type} {enc : TypeId × Value → H} {P : Program} {w : World} {base : Nat} {spare : Nat → Bool} {held : Bool} {t s e : TypeId} {v : Value} {d : DataW H} {p : List MemPlace} (ks : List Bool) (h0 : 0 < ks.length) (ht : P.underlying t = some (.slice s)) (hs : P.underlying s = some (.slice e)) (hc : P.cellsOf s = 1) (hk : P.cellsOf e = ks.length) (hf : flatK P 10 e = some ks)
    {r : Reach} {b0 : Nat} (hv : Value.okWide P w r b0 t v) (h : DataW.Trod enc P w base spare held t v d p) :
    ∃ D : ND, v = .slice D.A D.n D.c ∧ D.ok w ks := by
  obtain ⟨A, n, c, rfl, hnc, hcm, hS⟩ := slice_elems 1 (fun cs => ∃ g : GD, cs = [.slice g.A g.n g.c] ∧ g.ok w ∧ g.ks = ks) ht hc (by decide) (fun fu cs x hx => by
    obtain ⟨A, n, c, rfl, hnc, hcm, hs⟩ := slice_at ks.length (fun cs => ∀ (j : Nat) (k : Bool), ks[j]? = some k → (k = true → ∃ y, cs[j]? = some (.int .i64 y) ∧ B64 y) ∧ (k = false → ∃ y, cs[j]? = some (.bool y))) hs hk h0 (fun n cs x hx => flatK_ok hf n cs x hx) hx
    unfold maxLen at hcm
    have z64 : B64 0 := by unfold B64; omega
    rcases hs with rfl | ⟨b, off, rfl, hb, hcell⟩
    · exact ⟨⟨A, c, 0, ks, fun _ _ => 0, fun _ _ => false⟩, rfl, ⟨Nat.zero_le _, fun _ _ h => absurd h (Nat.not_lt_zero _), fun _ _ => z64⟩, rfl⟩
    · have hf : ∀ i j, ∃ f : Int × Bool, B64 f.1 ∧ (i < n → j < ks.length → w.cell? ⟨b, off + (i * ks.length + j), none⟩ = some (match ks[j]? with | some true => .int .i64 f.1 | _ => .bool f.2)) := by
        intro i j
        by_cases hi : i < n
        · by_cases hj : j < ks.length
          · obtain ⟨cs, _, hQ, hc⟩ := hcell i hi
            have hj' := List.getElem?_eq_getElem hj
            have h1 := hQ j _ hj'
            have h2 := hc j hj
            rw [Nat.add_assoc] at h2
            rw [hj']
            cases hb : ks[j] with
            | true =>
              obtain ⟨y, hy, hyb⟩ := h1.1 hb
              exact ⟨(y, false), hyb, fun _ _ => by rw [h2, hy]⟩
            | false =>
              obtain ⟨y, hy⟩ := h1.2 hb
              exact ⟨(0, y), z64, fun _ _ => by rw [h2, hy]⟩
          · exact ⟨(0, false), z64, fun _ h => absurd h hj⟩
        · exact ⟨(0, false), z64, fun h => absurd h hi⟩
      obtain ⟨f, hf⟩ := Classical.axiomOfChoice fun i => Classical.axiomOfChoice (hf i)
      exact ⟨⟨some ⟨b, off, none⟩, c, n, ks, fun i j => (f i j).1, fun i j => (f i j).2⟩, rfl, ⟨by show n ≤ _; omega, fun i j hi hj => ⟨b, off, rfl, hb, (hf i j).2 hi hj⟩, fun i j => (hf i j).1⟩, rfl⟩) hv h
  unfold maxLen at hcm
  have zg : (⟨none, 0, 0, ks, fun _ _ => 0, fun _ _ => false⟩ : GD).ok w := ⟨Nat.zero_le _, fun _ _ h => absurd h (Nat.not_lt_zero _), fun _ _ => (by show B64 0; unfold B64; omega)⟩
  rcases hS with rfl | ⟨b, off, rfl, hb, hcell⟩
  · exact ⟨⟨A, c, 0, fun _ => ⟨none, 0, 0, ks, fun _ _ => 0, fun _ _ => false⟩⟩, rfl, ⟨Nat.zero_le _, fun _ h => absurd h (Nat.not_lt_zero _), fun _ => ⟨zg, rfl⟩⟩⟩
  · have hf : ∀ i, ∃ g : GD, g.ok w ∧ g.ks = ks ∧ (i < n → w.cell? ⟨b, off + i, none⟩ = some (.slice g.A g.n g.c)) := by
      intro i
      by_cases hi : i < n
      · obtain ⟨cs, _, ⟨g, rfl, g1, g2⟩, hc⟩ := hcell i hi
        exact ⟨g, g1, g2, fun _ => by have := hc 0 (by decide); simpa using this⟩
      · exact ⟨_, zg, rfl, fun h => absurd h hi⟩
    obtain ⟨f, hf⟩ := Classical.axiomOfChoice hf
    exact ⟨⟨some ⟨b, off, none⟩, c, n, f⟩, rfl, ⟨by show n ≤ _; omega, fun i hi => ⟨b, off, rfl, hb, (hf i).2.2 hi⟩, fun i => ⟨(hf i).1, (hf i).2.1⟩⟩⟩
end Go.Proofs.Ytdfpenjhpemokaa.Sx
