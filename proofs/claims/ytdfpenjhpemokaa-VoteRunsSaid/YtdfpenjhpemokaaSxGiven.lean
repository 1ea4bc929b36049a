/-
  A verified symbolic executor: slices among the arguments, their elements ints and booleans: how they are given.
-/
import Derived.Test.YtdfpenjhpemokaaSxZ
import Derived.Test.YtdfpenjhpemokaaOpen2
set_option linter.unusedVariables false
set_option linter.unusedSimpArgs false
namespace Go.Proofs.Ytdfpenjhpemokaa.Sx
open Go.RowKit

/-- n elements of s cells. -/
def cellsF (n s : Nat) (g : Nat → Nat → Value) : List Value := (List.range (n * s)).map fun q => g (q / s) (q % s)
theorem cellsF_get {n s : Nat} {g : Nat → Nat → Value} {i j : Nat} (hi : i < n) (hj : j < s) : (cellsF n s g)[i * s + j]? = some (g i j) := by
  have h1 : i * s + j < n * s := by
    have : (i + 1) * s ≤ n * s := Nat.mul_le_mul_right s hi
    rw [Nat.add_mul, Nat.one_mul] at this
    omega
  have h2 : (i * s + j) / s = i := by rw [Nat.mul_comm, Nat.mul_add_div (by omega), Nat.div_eq_of_lt hj, Nat.add_zero]
  have h3 : (i * s + j) % s = j := by rw [Nat.mul_comm, Nat.mul_add_mod, Nat.mod_eq_of_lt hj]
  rw [cellsF, List.getElem?_map, List.getElem?_range h1, Option.map_some, h2, h3]
theorem cellsF_of {n s : Nat} {g : Nat → Nat → Value} {q : Nat} {v : Value} (h : (cellsF n s g)[q]? = some v) : q / s < n ∧ q % s < s ∧ v = g (q / s) (q % s) ∧ q = q / s * s + q % s := by
  rw [cellsF, List.getElem?_map, Option.map_eq_some_iff] at h
  obtain ⟨x, hx, rfl⟩ := h
  rw [List.getElem?_eq_some_iff] at hx
  obtain ⟨hl, rfl⟩ := hx
  rw [List.length_range] at hl
  rw [List.getElem_range]
  have hs : 0 < s := by
    rcases Nat.eq_zero_or_pos s with h0 | h0
    · subst h0; omega
    · exact h0
  exact ⟨(Nat.div_lt_iff_lt_mul hs).2 hl, Nat.mod_lt _ hs, rfl, by rw [Nat.mul_comm]; exact (Nat.div_add_mod q s).symm⟩
/-- A slice that is given: where it lies, how much it can hold, how many elements it has, of which cells (true: ints, false: booleans). -/
structure GD where
  A : Option Addr
  c : Nat
  n : Nat
  ks : List Bool
  fi : Nat → Nat → Int
  fb : Nat → Nat → Bool
def GD.val (g : GD) (i j : Nat) : Value := match g.ks[j]? with
  | some true => .int .i64 (g.fi i j)
  | _ => .bool (g.fb i j)
/-- It lies so in the world. -/
structure GD.ok (g : GD) (w : World) : Prop where
  n : g.n ≤ 9223372036854775807
  cell : ∀ i j, i < g.n → j < g.ks.length → ∃ bl off, g.A = some ⟨bl, off, none⟩ ∧ bl < w.heap.size ∧ w.cell? ⟨bl, off + (i * g.ks.length + j), none⟩ = some (g.val i j)
  b64 : ∀ i j, B64 (g.fi i j)
def GD.none : GD := ⟨Option.none, 0, 0, [], fun _ _ => 0, fun _ _ => false⟩
theorem GD.none_ok (w : World) : GD.none.ok w := ⟨by decide, fun _ _ h => absurd h (Nat.not_lt_zero _), fun _ _ => (by show B64 0; unfold B64; omega)⟩
def ckOf : Bool → CK
  | true => .int .i64 (-9223372036854775808) 9223372036854775807
  | false => .bool
def genEnv (et : TypeId) (iv : Nat → Int) (bv : Nat → Bool) (fn : Nat → List Int → Int) (fb : Nat → List Int → Bool) (fl : Nat → List Int → List Int) (G : Nat → GD) : Env where
  iv := iv
  bv := bv
  fn := fun id l => if 1000 ≤ id then (G ((id - 1000) / 100)).fi (l.headD 0).toNat (id % 100) else fn id l
  fb := fun id l => if 1000 ≤ id then (G ((id - 1000) / 100)).fb (l.headD 0).toNat (id % 100) else fb id l
  et := et
  ov := fun k => ((G k).A, (G k).c)
  fl := fl
  mv := fun k => cellsF (G k).n (G k).ks.length (G k).val
  ol := fun k => (G k).n
theorem gen_mem {et : TypeId} {iv : Nat → Int} {bv : Nat → Bool} {fn : Nat → List Int → Int} {fb : Nat → List Int → Bool} {fl : Nat → List Int → List Int} {G : Nat → GD} {w : World} (h : ∀ k, (G k).ok w) : Mem (genEnv et iv bv fn fb fl G) (· < w.heap.size) w := by
  refine ⟨?_, fun k i q v hv => by cases hv⟩
  intro k i v hv
  obtain ⟨h1, h2, h3, h4⟩ := cellsF_of hv
  obtain ⟨bl, off, e1, e2, e3⟩ := (h k).cell _ _ h1 h2
  exact ⟨bl, off, e1, e2, by rw [h4, h3]; exact e3⟩
theorem gen_elem {et : TypeId} {iv : Nat → Int} {bv : Nat → Bool} {fn : Nat → List Int → Int} {fb : Nat → List Int → Bool} {fl : Nat → List Int → List Int} {G : Nat → GD} {w : World} (h : ∀ k, (G k).ok w) {k i : Nat} (hi : i < (G k).n) (hks : (G k).ks.length ≤ 100) : CK.elem (genEnv et iv bv fn fb fl G) ((G k).ks.map ckOf) k i := by
  intro j c hc
  rw [List.getElem?_map, Option.map_eq_some_iff] at hc
  obtain ⟨x, hx, rfl⟩ := hc
  have hj := (List.getElem?_eq_some_iff.1 hx).1
  have e1 : 1000 ≤ CK.fid k j := by unfold CK.fid; omega
  have e2 : (CK.fid k j - 1000) / 100 = k := by unfold CK.fid; omega
  have e3 : CK.fid k j % 100 = j := by unfold CK.fid; omega
  rw [List.length_map]
  refine ⟨?_, ?_⟩
  · show (cellsF (G k).n (G k).ks.length (G k).val)[i * (G k).ks.length + j]? = _
    rw [cellsF_get hi hj]
    congr 1
    unfold GD.val
    rw [hx]
    cases x <;> simp [ckOf, CK.val, genEnv, e1, e2, e3]
  · cases x
    · trivial
    · have := (h k).b64 i j
      unfold B64 at this
      simpa [ckOf, CK.fits, genEnv, e1, e2, e3] using this
/-- The argument, as a symbolic value. -/
theorem gen_osl {et : TypeId} {iv : Nat → Int} {bv : Nat → Bool} {fn : Nat → List Int → Int} {fb : Nat → List Int → Bool} {fl : Nat → List Int → List Int} {G : Nat → GD} {w : World} (h : ∀ k, (G k).ok w) {k m : Nat} {sh : List CK} (hsh : (G k).ks.map ckOf = sh) (hm : iv m = (G k).n) (hks : (G k).ks.length ≤ 100) (N : Nat → Prop) (b : Bd) :
    (SV.osl k sh ⟨.v m, 0, 9223372036854775807⟩).ok (genEnv et iv bv fn fb fl G) N ∧ (SV.osl k sh ⟨.v m, 0, 9223372036854775807⟩).den (genEnv et iv bv fn fb fl G) b = .slice (G k).A (G k).n (G k).c := by
  subst hsh
  have hv : (genEnv et iv bv fn fb fl G).iv m = (G k).n := hm
  refine ⟨⟨⟨?_, ?_⟩, Int.le_refl _, fun i hi => ?_, hv⟩, ?_⟩
  · simp only [E.i, hv]; omega
  · have := (h k).n; simp only [E.i, hv]; omega
  · simp only [E.i, hv] at hi
    exact gen_elem h (by omega) hks
  · simp only [SV.den, E.i, genEnv, hm, Int.toNat_natCast]

open Go.ChangeShapes Go.WideShapes Go.ChangeAt Go.Deep in
/-- A slice among the arguments, of elements of one-cell fields. -/
theorem given_open {H : Type} {enc : TypeId × Value → H} {P : Program} {w : World} {base : Nat} {spare : Nat → Bool} {held : Bool} {t e : TypeId} {v : Value} {d : DataW H} {p : List MemPlace} (ks : List Bool) (h0 : 0 < ks.length) (ht : P.underlying t = some (.slice e)) (hk : P.cellsOf e = ks.length)
    (hQ : ∀ (n : Nat) (cs : List Value) (x : DataW H × List MemPlace), DataW.trod enc P w base spare held n e cs = some x → ∀ (j : Nat) (k : Bool), ks[j]? = some k → (k = true → ∃ y, cs[j]? = some (.int .i64 y) ∧ B64 y) ∧ (k = false → ∃ y, cs[j]? = some (.bool y)))
    {r : Reach} {b0 : Nat} (hv : Value.okWide P w r b0 t v) (h : DataW.Trod enc P w base spare held t v d p) :
    ∃ g : GD, g.ks = ks ∧ v = .slice g.A g.n g.c ∧ g.ok w := by
  obtain ⟨A, n, c, rfl, hnc, hcm, hs⟩ := slice_elems ks.length (fun cs => ∀ (j : Nat) (k : Bool), ks[j]? = some k → (k = true → ∃ y, cs[j]? = some (.int .i64 y) ∧ B64 y) ∧ (k = false → ∃ y, cs[j]? = some (.bool y))) ht hk h0 hQ hv h
  unfold maxLen at hcm
  have z64 : B64 0 := by unfold B64; omega
  rcases hs with rfl | ⟨b, off, rfl, hb, hcell⟩
  · exact ⟨⟨A, c, 0, ks, fun _ _ => 0, fun _ _ => false⟩, rfl, rfl, ⟨Nat.zero_le _, fun _ _ h => absurd h (Nat.not_lt_zero _), fun _ _ => z64⟩⟩
  · have hf : ∀ i j, ∃ f : Int × Bool, B64 f.1 ∧ (i < n → j < ks.length → w.cell? ⟨b, off + (i * ks.length + j), none⟩ = some (match ks[j]? with | some true => .int .i64 f.1 | _ => .bool f.2)) := by
      intro i j
      by_cases hi : i < n
      · by_cases hj : j < ks.length
        · obtain ⟨cs, _, hQ, hc⟩ := hcell i hi
          have hj' := List.getElem?_eq_getElem hj
          have h1 := hQ j _ hj'
          have h2 := hc j hj
          rw [Nat.add_assoc] at h2
          rw [hj']
          cases hb : ks[j] with
          | true =>
            obtain ⟨y, hy, hyb⟩ := h1.1 hb
            exact ⟨(y, false), hyb, fun _ _ => by rw [h2, hy]⟩
          | false =>
            obtain ⟨y, hy⟩ := h1.2 hb
            exact ⟨(0, y), z64, fun _ _ => by rw [h2, hy]⟩
        · exact ⟨(0, false), z64, fun _ h => absurd h hj⟩
      · exact ⟨(0, false), z64, fun h => absurd h hi⟩
    obtain ⟨f, hf⟩ := Classical.axiomOfChoice fun i => Classical.axiomOfChoice (hf i)
    exact ⟨⟨some ⟨b, off, none⟩, c, n, ks, fun i j => (f i j).1, fun i j => (f i j).2⟩, rfl, rfl, ⟨by show n ≤ _; omega, fun i j hi hj => ⟨b, off, rfl, hb, (hf i j).2 hi hj⟩, fun i j => (hf i j).1⟩⟩
end Go.Proofs.Ytdfpenjhpemokaa.Sx
