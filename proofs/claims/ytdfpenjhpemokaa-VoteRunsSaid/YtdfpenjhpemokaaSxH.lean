/-
  A verified symbolic executor, part 8: one operation that makes a value and leaves the world alone, from its text.
-/
import Derived.Test.YtdfpenjhpemokaaSxG
set_option linter.unusedVariables false
set_option linter.unusedSimpArgs false
namespace Go.Proofs.Ytdfpenjhpemokaa.Sx
open Go.RowKit (Below)

def fieldT (P : Program) (s : TypeId) (i : Nat) : Option Field :=
  match P.underlying s with
  | some (.struct fields) => fields[i]?
  | _ => none
def sField (P : Program) (t : TypeId) (x : SV) (i : Nat) : Option SV :=
  match x, fieldT P t i with
  | .agg cs, some f => sPart P f.type cs f.offset
  | _, _ => none
theorem sField_ok {P : Program} {t : TypeId} {x v : SV} {i : Nat} (h : sField P t x i = some v) {ρ : Env} {b : Bd} {N : Nat → Prop} (hx : x.ok ρ N) (w : World) : (Instr.field t (x.den ρ b) i).run P w = .ok (v.den ρ b) w ∧ v.ok ρ N := by
  unfold sField at h
  split at h
  · rename_i cs f hf
    have hp := sPart_ok h (b := b) hx w
    unfold fieldT at hf
    split at hf
    · rename_i fields hu
      exact ⟨by simp [Instr.field, run_underlying hu, hf, SV.den, asAgg, hp.1], hp.2⟩
    · cases hf
  · cases h
def sFieldAddr (P : Program) (s : TypeId) (x : SV) (i : Nat) : Option SV :=
  match x, fieldT P s i with
  | .ptr n off, some f => match sizeT P f.type with
    | some 0 => none
    | some _ => some (.ptr n (off + f.offset))
    | none => none
  | .optr k sh j off, some f => match sizeT P f.type with
    | some 0 => none
    | some _ => some (.optr k sh j (off + f.offset))
    | none => none
  | _, _ => none
theorem add_lit (β o off k : Nat) : (⟨β, o + off, none⟩ : Addr).add k = ⟨β, o + (off + k), none⟩ := by
  unfold Addr.add
  split
  · rename_i h; subst h; rfl
  · simp [Nat.add_assoc]
theorem sFieldAddr_ok {P : Program} {s : TypeId} {x v : SV} {i : Nat} (h : sFieldAddr P s x i = some v) {ρ : Env} {b : Bd} {N : Nat → Prop} (hx : x.ok ρ N) (w : World) : (Instr.fieldAt s (x.den ρ b) i).run P w = .ok (v.den ρ b) w ∧ v.ok ρ N := by
  unfold sFieldAddr at h
  split at h
  · rename_i n off f hf
    unfold fieldT at hf
    split at hf
    · rename_i fields hu
      split at h
      · cases h
      · rename_i sz hne hs
        cases h
        refine ⟨?_, hx⟩
        have h0 : ¬ sz = 0 := fun e => hne e
        simp [Instr.fieldAt, run_underlying hu, hf, SV.den, Instr.sureAddr, fieldPlace, run_sizeOf hs, h0, add_lit]
      · cases h
    · cases hf
  · rename_i k sh j off f hf
    unfold fieldT at hf
    split at hf
    · rename_i fields hu
      split at h
      · cases h
      · rename_i sz hne hs
        cases h
        have h0 : ¬ sz = 0 := fun e => hne e
        refine ⟨?_, hx⟩
        obtain ⟨p, o, hov⟩ := hx.2.2.2
        simp [Instr.fieldAt, run_underlying hu, hf, SV.den, Instr.sureAddr, fieldPlace, run_sizeOf hs, h0, hov, add_lit, Nat.add_assoc]
      · cases h
    · cases hf
  · cases h
/-- A literal index. -/
def litIx (x : SV) (len : Nat) : Option Nat :=
  match x with
  | .int _ r => if r.lo = r.hi ∧ 0 ≤ r.lo ∧ r.lo < len then some r.lo.toNat else none
  | _ => none
theorem litIx_ok {x : SV} {len i : Nat} (h : litIx x len = some i) {ρ : Env} {b : Bd} {N : Nat → Prop} (hx : x.ok ρ N) : i < len ∧ ∃ k, x.den ρ b = .int k (i : Int) := by
  unfold litIx at h
  split at h
  · rename_i k r
    split at h
    · rename_i hc
      cases h
      obtain ⟨h1, h2, h3⟩ := hc
      have : r.e.i ρ = r.lo := by have := hx.1; have := hx.2; omega
      exact ⟨by omega, k, by simp only [SV.den, this]; congr 1; omega⟩
    · cases h
  · cases h
def sIndexAddr (P : Program) (t : TypeId) (x ix : SV) : Option SV :=
  match x, P.underlying t with
  | .ptr n off, some (.array len e) => match litIx ix len, sizeT P e with
    | some i, some s => some (.ptr n (off + i * s))
    | _, _ => none
  | .sl n off len _, some (.slice e) => match litIx ix len, sizeT P e with
    | some i, some s => some (.ptr n (off + i * s))
    | _, _ => none
  | .slv n off len, some (.slice e) => match litIx ix len.lo.toNat, sizeT P e with
    | some i, some s => some (.ptr n (off + i * s))
    | _, _ => none
  | .optr k sh j off, some (.array len e) => match litIx ix len, sizeT P e with
    | some i, some s => some (.optr k sh j (off + i * s))
    | _, _ => none
  | _, _ => none
theorem sIndexAddr_ok {P : Program} {t : TypeId} {x ix v : SV} (h : sIndexAddr P t x ix = some v) {ρ : Env} {b : Bd} {N : Nat → Prop} (hx : x.ok ρ N) (hi : ix.ok ρ N) (w : World) : (Instr.indexAt t (x.den ρ b) (ix.den ρ b)).run P w = .ok (v.den ρ b) w ∧ v.ok ρ N := by
  unfold sIndexAddr at h
  split at h
  · rename_i n off len e hu
    split at h
    · rename_i i s h1 h2
      cases h
      obtain ⟨hl, k, hk⟩ := litIx_ok h1 (b := b) hi
      refine ⟨?_, hx⟩
      have hc : (0 : Int) ≤ i ∧ (i : Int) < len := by omega
      simp [Instr.indexAt, run_underlying hu, hk, asIntOf, SV.den, Instr.sureAddr, run_sizeOf h2, hl, add_lit]
    · cases h
  · rename_i n off len cap e hu
    split at h
    · rename_i i s h1 h2
      cases h
      obtain ⟨hl, k, hk⟩ := litIx_ok h1 (b := b) hi
      refine ⟨?_, hx⟩
      simp [Instr.indexAt, run_underlying hu, hk, asIntOf, SV.den, run_sizeOf h2, hl, add_lit]
    · cases h
  · rename_i n off len e hu
    split at h
    · rename_i i s h1 h2
      cases h
      obtain ⟨hl, k, hk⟩ := litIx_ok h1 (b := b) hi
      obtain ⟨x1, x2, x3⟩ := hx
      have hl2 : i < (len.e.i ρ).toNat := by have := x2.1; omega
      refine ⟨?_, x1⟩
      simp [Instr.indexAt, run_underlying hu, hk, asIntOf, SV.den, run_sizeOf h2, hl2, add_lit]
      try omega
    · cases h
  · rename_i k sh j off len e hu
    split at h
    · rename_i i s h1 h2
      cases h
      obtain ⟨hl, k, hk⟩ := litIx_ok h1 (b := b) hi
      obtain ⟨p, o, hov⟩ := hx.2.2.2
      refine ⟨?_, hx⟩
      have hc : (0 : Int) ≤ i ∧ (i : Int) < len := by omega
      simp [Instr.indexAt, run_underlying hu, hk, asIntOf, SV.den, hov, Instr.sureAddr, run_sizeOf h2, hl, add_lit, Nat.add_assoc]
    · cases h
  · cases h
def sIndex (P : Program) (t : TypeId) (x ix : SV) : Option SV :=
  match x, P.underlying t with
  | .agg cs, some (.array len e) => match litIx ix len, sizeT P e with
    | some i, some s => sPart P e cs (i * s)
    | _, _ => none
  | _, _ => none
theorem sIndex_ok {P : Program} {t : TypeId} {x ix v : SV} (h : sIndex P t x ix = some v) {ρ : Env} {b : Bd} {N : Nat → Prop} (hx : x.ok ρ N) (hi : ix.ok ρ N) (w : World) : (Instr.index t (x.den ρ b) (ix.den ρ b)).run P w = .ok (v.den ρ b) w ∧ v.ok ρ N := by
  unfold sIndex at h
  split at h
  · rename_i cs len e hu
    split at h
    · rename_i i s h1 h2
      obtain ⟨hl, k, hk⟩ := litIx_ok h1 (b := b) hi
      have hp := sPart_ok h (b := b) hx w
      refine ⟨?_, hp.2⟩
      simp [Instr.index, run_underlying hu, hk, asIntOf, SV.den, run_sizeOf h2, hl, hp.1]
    · cases h
  · cases h
def sLen (P : Program) (t : TypeId) (x : SV) : Option SV :=
  match x, P.underlying t with
  | .sl _ _ n _, some (.slice _) => some (.int .i64 ⟨.c n, n, n⟩)
  | .slv _ _ n, some (.slice _) => some (.int .i64 n)
  | .osl _ _ n, some (.slice _) => some (.int .i64 n)
  | .esl id i, some (.slice _) => some (.int .i64 ⟨.ap id (.cons i .nil), 0, 9223372036854775807⟩)
  | .emp _, some (.slice _) => some (.int .i64 ⟨.c 0, 0, 0⟩)
  | .nils, some (.slice _) => some (.int .i64 ⟨.c 0, 0, 0⟩)
  | _, some (.array n _) => some (.int .i64 ⟨.c n, n, n⟩)
  | _, _ => none
theorem sLen_ok {P : Program} {t ty : TypeId} {x v : SV} (h : sLen P t x = some v) {ρ : Env} {b : Bd} {N : Nat → Prop} (hx : x.ok ρ N) (w : World) : (Builtin.len_ #[t] ty #[x.den ρ b]).run P w = .ok (v.den ρ b) w ∧ v.ok ρ N := by
  unfold sLen at h
  split at h
  · rename_i hu
    cases h
    exact ⟨by simp [Builtin.len_, run_underlying hu, SV.den, goInt, E.i], lit0_ok ρ _⟩
  · rename_i hu
    cases h
    obtain ⟨x1, x2, x3⟩ := hx
    refine ⟨?_, x2⟩
    simp [Builtin.len_, run_underlying hu, SV.den, goInt]
    have := x2.1
    omega
  · rename_i hu
    cases h
    obtain ⟨x2, x3, _⟩ := hx
    refine ⟨?_, x2⟩
    simp [Builtin.len_, run_underlying hu, SV.den, goInt]
    have := x2.1
    omega
  · rename_i hu
    cases h
    obtain ⟨x2, x3⟩ := hx
    refine ⟨?_, ?_⟩
    · simp [Builtin.len_, run_underlying hu, SV.den, Env.slc, goInt, E.i, E.l, x2]
    · simp only [SV.ok, R.ok, E.i, E.l, x2]; omega
  · rename_i hu
    cases h
    exact ⟨by simp [Builtin.len_, run_underlying hu, SV.den, goInt, E.i], lit0_ok ρ _⟩
  · rename_i hu
    cases h
    exact ⟨by simp [Builtin.len_, run_underlying hu, SV.den, goInt, E.i], lit0_ok ρ _⟩
  · rename_i hu
    cases h
    exact ⟨by simp [Builtin.len_, run_underlying hu, SV.den, goInt, E.i], lit0_ok ρ _⟩
  · cases h
def sFoldM (f : R → R → R) : SV → List SV → Option SV
  | v, [] => some v
  | .int k a, .int j c :: l => if k = j then sFoldM f (.int k (f a c)) l else none
  | _, _ => none
theorem sMin_ok {ρ : Env} {b : Bd} {N : Nat → Prop} {P : Program} (w : World) : ∀ (l : List SV) (x v : SV), sFoldM rmin x l = some v → x.ok ρ N → SV.okL ρ N l → ((SV.denL ρ b l).foldlM Builtin.min2 (x.den ρ b) : Sem Value).run P w = .ok (v.den ρ b) w ∧ v.ok ρ N := by
  intro l
  induction l with
  | nil => intro x v h hx _; cases h; exact ⟨rfl, hx⟩
  | cons y l ih =>
    intro x v h hx hl
    unfold sFoldM at h
    split at h
    · rename_i he; cases he
    · rename_i k a j c l' he
      cases he
      split at h
      · rename_i hk
        subst hk
        have hm := rmin_ok hx hl.1
        have := ih _ v h hm.1 hl.2
        refine ⟨?_, this.2⟩
        rw [← this.1]
        have e : (if c.e.i ρ < a.e.i ρ then c.e.i ρ else a.e.i ρ) = min (a.e.i ρ) (c.e.i ρ) := by split <;> omega
        simp only [SV.denL, SV.den, List.foldlM_cons, Sem.run_bind, Builtin.min2, Sem.run_pure, Result.andThen, e, hm.2]
      · cases h
    · cases h
theorem sMax_ok {ρ : Env} {b : Bd} {N : Nat → Prop} {P : Program} (w : World) : ∀ (l : List SV) (x v : SV), sFoldM rmax x l = some v → x.ok ρ N → SV.okL ρ N l → ((SV.denL ρ b l).foldlM Builtin.max2 (x.den ρ b) : Sem Value).run P w = .ok (v.den ρ b) w ∧ v.ok ρ N := by
  intro l
  induction l with
  | nil => intro x v h hx _; cases h; exact ⟨rfl, hx⟩
  | cons y l ih =>
    intro x v h hx hl
    unfold sFoldM at h
    split at h
    · rename_i he; cases he
    · rename_i k a j c l' he
      cases he
      split at h
      · rename_i hk
        subst hk
        have hm := rmax_ok hx hl.1
        have := ih _ v h hm.1 hl.2
        refine ⟨?_, this.2⟩
        rw [← this.1]
        have e : (if c.e.i ρ > a.e.i ρ then c.e.i ρ else a.e.i ρ) = max (a.e.i ρ) (c.e.i ρ) := by split <;> omega
        simp only [SV.denL, SV.den, List.foldlM_cons, Sem.run_bind, Builtin.max2, Sem.run_pure, Result.andThen, e, hm.2]
      · cases h
    · cases h
/-- What nilCheck lets by. -/
def sNil : SV → Option SV
  | .ptr n off => some (.ptr n off)
  | .ifc t v => some (.ifc t v)
  | .fn f l => some (.fn f l)
  | _ => none

/-- One operation that makes a value and leaves the world alone. -/
def opV (P : Program) (et : TypeId) (A : List E) (S : St) (o : Oper) : Option SV :=
  match o.op with
  | .move x => ev A S x
  | .assign x => ev A S x
  | .pick c x y =>
    match ev A S c with
    | some (.bool (.bc true)) => ev A S x
    | some (.bool (.bc false)) => ev A S y
    | some (.bool d) => match ev (d :: A) S x, ev (mkNot d :: A) S y with
      | some u, some v => mrg1 et d u v
      | _, _ => none
    | _ => none
  | .build t parts => (evParts A S parts.toList).bind (sBuild P t)
  | .load t x => match ev A S x with
    | some (.ptr n off) => match blkOf A S n with
      | some B => sPart P t B.cells off
      | none => none
    | some (.optr k sh i off) => if sh = [] then none else sPart P t (sh.zipIdx.map fun c => c.1.sv k c.2 i.e) off
    | _ => none
  | .nilCheck x => (ev A S x).bind sNil
  | .binOp op t x y _ => match ev A S x, ev A S y with
    | some u, some v => sBin P op t (isConstO x || isConstO y) u v
    | _, _ => none
  | .unOp op _ x => (ev A S x).bind (sUn op)
  | .convert s d x => (ev A S x).bind (sConv P s d)
  | .makeInterface t x => match P.underlying t, ev A S x with
    | some (.interface _), _ => none
    | some _, some v => some (.ifc t v)
    | _, _ => none
  | .makeFunc (.func f) first captured => if first.isEmpty then (evs A S captured.toList).map (.fn f) else none
  | .fieldAddr s x i => (ev A S x).bind fun v => sFieldAddr P s v i
  | .field t x i => (ev A S x).bind fun v => sField P t v i
  | .indexAddr t x i => match ev A S x, ev A S i with
    | some u, some v => sIndexAddr P t u v
    | _, _ => none
  | .index t x i => match ev A S x, ev A S i with
    | some u, some v => sIndex P t u v
    | _, _ => none
  | .extract x i => match ev A S x with
    | some (.tup l) => l[i]?
    | _ => none
  | .call { callee := .builtin .len, args := args, argTypes := ts } => match args.toList, ts.toList with
    | [x], [t] => (ev A S x).bind (sLen P t)
    | _, _ => none
  | .call { callee := .builtin .min, args := args, argTypes := _ } => match evs A S args.toList with
    | some (x :: l) => sFoldM rmin x l
    | _ => none
  | .call { callee := .builtin .max, args := args, argTypes := _ } => match evs A S args.toList with
    | some (x :: l) => sFoldM rmax x l
    | _ => none
  | _ => none

theorem opV_ok {P : Program} {et : TypeId} {ρ : Env} (he : ρ.et = et) {b : Bd} {base : Nat → Prop} {w0 w : World} {S : St} {a : Act} {A : List E} (h : Rel ρ b base w0 w S a.tmps) (hA : allB ρ A) {o : Oper} {v : SV} (ho : opV P et A S o = some v) :
    (execOp a.eval o).run P w = .ok (.value (v.den ρ b)) w ∧ v.ok ρ (· < S.next) := by
  unfold opV at ho
  split at ho
  · rename_i x hop
    have := ev_ok h hA ho
    exact ⟨by simp [execOp, hop, this.1], this.2⟩
  · rename_i x hop
    have := ev_ok h hA ho
    exact ⟨by simp [execOp, hop, this.1], this.2⟩
  · rename_i c x y hop
    split at ho
    · rename_i hc
      have e1 := ev_ok h hA hc
      have e2 := ev_ok h hA ho
      exact ⟨by simp [execOp, hop, e1.1, e2.1, SV.den, asBool, E.b], e2.2⟩
    · rename_i hc
      have e1 := ev_ok h hA hc
      have e2 := ev_ok h hA ho
      exact ⟨by simp [execOp, hop, e1.1, e2.1, SV.den, asBool, E.b], e2.2⟩
    · rename_i d _ _ hc
      have e1 := ev_ok h hA hc
      split at ho
      · rename_i u u' hu hv
        by_cases hd : d.b ρ = true
        · have e2 := ev_ok h (A := d :: A) (by intro e he; cases he with | head => exact hd | tail _ he => exact hA e he) hu
          have e3 := mrg1_t he hd ho (b := b) e2.2
          exact ⟨by simp [execOp, hop, e1.1, e2.1, SV.den, asBool, hd, e3.1], e3.2⟩
        · have hd' : d.b ρ = false := by simpa using hd
          have e2 := ev_ok h (A := mkNot d :: A) (by intro e he; cases he with | head => rw [mkNot_b, hd']; rfl | tail _ he => exact hA e he) hv
          have e3 := mrg1_f he hd' ho (b := b) e2.2
          exact ⟨by simp [execOp, hop, e1.1, e2.1, SV.den, asBool, hd', e3.1], e3.2⟩
      · cases ho
    · cases ho
  · rename_i t parts hop
    rw [Option.bind_eq_some_iff] at ho
    obtain ⟨ps, h1, h2⟩ := ho
    have e1 := evParts_ok h hA h1
    have := sBuild_ok h2 (b := b) e1.2 w (parts.map fun (i, x) => (i, a.eval x)) (by rw [Array.toList_map]; exact e1.1)
    exact ⟨by simp [execOp, hop, this.1], this.2⟩
  · rename_i t x hop
    split at ho
    · rename_i n off hx
      split at ho
      · rename_i B hB
        have e1 := ev_ok h hA hx
        have e2 := blkOf_ok h hA hB
        have := sLoad_ok ho (b := b) e2.2.2 (w := w) (a := ⟨b.β n, b.o n + off, none⟩) (fun i u hu => by
          rw [add_lit]
          exact Blk.ok.cell e2.2.1 hu)
        exact ⟨by simp [execOp, hop, e1.1, SV.den, Instr.loadAt, Instr.sureAddr, this.1], this.2⟩
      · cases ho
    · rename_i k sh i off hx
      split at ho
      · cases ho
      · have e1 := ev_ok h hA hx
        obtain ⟨_, h0, hel, p, o', hov⟩ := e1.2
        have hk : SV.okL ρ (· < S.next) (sh.zipIdx.map fun c => c.1.sv k c.2 i.e) := (okL_all _ _ _).2 fun v hv => by
          obtain ⟨⟨c, j⟩, hc, rfl⟩ := List.mem_map.1 hv
          have := List.mem_zipIdx_iff_getElem?.1 hc
          refine CK.sv_ok ?_
          have := (hel j c this).2
          rwa [Int.toNat_of_nonneg h0] at this
        have := sLoad_ok ho (b := b) hk (w := w) (a := ⟨p, o' + ((i.e.i ρ).toNat * sh.length + off), none⟩) (fun n u hu => by
          rw [List.getElem?_map] at hu
          cases hz : (sh.zipIdx)[off + n]? with
          | none => rw [hz] at hu; cases hu
          | some c =>
            rw [hz] at hu
            cases hu
            rw [List.getElem?_zipIdx] at hz
            cases hs : sh[off + n]? with
            | none => rw [hs] at hz; cases hz
            | some d =>
              rw [hs] at hz
              cases hz
              obtain ⟨hv, _⟩ := hel (off + n) d hs
              obtain ⟨p', off', g1, g2, g3⟩ := (h.kept.kept h.below).1 k _ _ hv
              rw [hov] at g1
              cases g1
              rw [add_lit]
              rw [CK.sv_den]
              rw [Int.toNat_of_nonneg h0] at g3
              simpa [Nat.add_assoc] using g3)
        exact ⟨by simp [execOp, hop, e1.1, SV.den, hov, Instr.loadAt, Instr.sureAddr, this.1], this.2⟩
    · cases ho
  · rename_i x hop
    rw [Option.bind_eq_some_iff] at ho
    obtain ⟨u, h1, h2⟩ := ho
    have e1 := ev_ok h hA h1
    unfold sNil at h2
    split at h2 <;> cases h2
    · exact ⟨by simp [execOp, hop, e1.1, SV.den], e1.2⟩
    · exact ⟨by simp [execOp, hop, e1.1, SV.den], e1.2⟩
    · exact ⟨by simp [execOp, hop, e1.1, SV.den], e1.2⟩
  · rename_i op t x y yt hop
    split at ho
    · rename_i u u' hu hv
      have e1 := ev_ok h hA hu
      have e2 := ev_ok h hA hv
      have := sBin_ok (yt := yt) ho (b := b) e1.2 e2.2 w
      refine ⟨?_, this.2⟩
      have h3 := this.1
      rw [Sem.run_bind] at h3
      simp only [execOp, hop, e1.1, e2.1, Sem.run_bind]
      rw [h3]
      rfl
    · cases ho
  · rename_i op t x hop
    rw [Option.bind_eq_some_iff] at ho
    obtain ⟨u, h1, h2⟩ := ho
    have e1 := ev_ok h hA h1
    have := sUn_ok (P := P) h2 (b := b) e1.2 w
    exact ⟨by simp [execOp, hop, e1.1, this.1], this.2⟩
  · rename_i s d x hop
    rw [Option.bind_eq_some_iff] at ho
    obtain ⟨u, h1, h2⟩ := ho
    have e1 := ev_ok h hA h1
    have := sConv_ok h2 (b := b) e1.2 w
    exact ⟨by simp [execOp, hop, e1.1, this.1], this.2⟩
  · rename_i t x hop
    split at ho
    · cases ho
    · rename_i d u hne hu hx
      cases ho
      have e1 := ev_ok h hA hx
      refine ⟨?_, e1.2⟩
      cases d <;> first
        | exact (hne _ rfl).elim
        | simp [execOp, hop, e1.1, Instr.makeInterface, run_underlying hu, SV.den]
    · cases ho
  · rename_i f first captured hop
    split at ho
    · rename_i hf
      rw [Option.map_eq_some_iff] at ho
      obtain ⟨l, h1, rfl⟩ := ho
      have e1 := evs_ok h hA h1
      refine ⟨?_, e1.2⟩
      have hfe : first = #[] := by simpa using hf
      have hc : captured.map a.eval = (SV.denL ρ b l).toArray := by
        apply Array.ext'
        simpa using e1.1
      simp [execOp, hop, Instr.makeFunc, SV.den, hfe, hc]
    · cases ho
  · rename_i s x i hop
    rw [Option.bind_eq_some_iff] at ho
    obtain ⟨u, h1, h2⟩ := ho
    have e1 := ev_ok h hA h1
    have := sFieldAddr_ok h2 (b := b) e1.2 w
    exact ⟨by simp [execOp, hop, e1.1, this.1], this.2⟩
  · rename_i t x i hop
    rw [Option.bind_eq_some_iff] at ho
    obtain ⟨u, h1, h2⟩ := ho
    have e1 := ev_ok h hA h1
    have := sField_ok h2 (b := b) e1.2 w
    exact ⟨by simp [execOp, hop, e1.1, this.1], this.2⟩
  · rename_i t x i hop
    split at ho
    · rename_i u u' hu hv
      have e1 := ev_ok h hA hu
      have e2 := ev_ok h hA hv
      have := sIndexAddr_ok ho (b := b) e1.2 e2.2 w
      exact ⟨by simp [execOp, hop, e1.1, e2.1, this.1], this.2⟩
    · cases ho
  · rename_i t x i hop
    split at ho
    · rename_i u u' hu hv
      have e1 := ev_ok h hA hu
      have e2 := ev_ok h hA hv
      have := sIndex_ok ho (b := b) e1.2 e2.2 w
      exact ⟨by simp [execOp, hop, e1.1, e2.1, this.1], this.2⟩
    · cases ho
  · rename_i x i hop
    split at ho
    · rename_i l hx
      have e1 := ev_ok h hA hx
      refine ⟨?_, okL_get e1.2 ho⟩
      simp [execOp, hop, e1.1, SV.den, Instr.extract, denL_get, ho]
    · cases ho
  · rename_i args ts hop
    split at ho
    · rename_i x t hx ht
      rw [Option.bind_eq_some_iff] at ho
      obtain ⟨u, h1, h2⟩ := ho
      have e1 := ev_ok h hA h1
      have := sLen_ok (N := (· < S.next)) (ty := o.type) h2 (ρ := ρ) (b := b) e1.2 w
      refine ⟨?_, this.2⟩
      obtain rfl : args = #[x] := by apply Array.ext'; simpa using hx
      obtain rfl : ts = #[t] := by apply Array.ext'; simpa using ht
      simp [execOp, hop, resolve, invoke, builtin, e1.1, this.1]
    · cases ho
  · rename_i args ts hop
    split at ho
    · rename_i x l hx
      have e1 := evs_ok h hA hx
      have := sMin_ok (P := P) (b := b) w l x v ho e1.2.1 e1.2.2
      refine ⟨?_, this.2⟩
      have hm : (args.map a.eval).toList = x.den ρ b :: SV.denL ρ b l := by rw [Array.toList_map, e1.1]; rfl
      simp only [execOp, hop, resolve, invoke, builtin, Sem.run_bind, Sem.run_pure, Result.andThen, Builtin.min_, hm, this.1]
    · cases ho
  · rename_i args ts hop
    split at ho
    · rename_i x l hx
      have e1 := evs_ok h hA hx
      have := sMax_ok (P := P) (b := b) w l x v ho e1.2.1 e1.2.2
      refine ⟨?_, this.2⟩
      have hm : (args.map a.eval).toList = x.den ρ b :: SV.denL ρ b l := by rw [Array.toList_map, e1.1]; rfl
      simp only [execOp, hop, resolve, invoke, builtin, Sem.run_bind, Sem.run_pure, Result.andThen, Builtin.max_, hm, this.1]
    · cases ho
  · cases ho
end Go.Proofs.Ytdfpenjhpemokaa.Sx
