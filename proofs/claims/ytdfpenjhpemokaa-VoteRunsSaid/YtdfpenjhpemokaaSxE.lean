/-
  A verified symbolic executor, part 5: the operations that only compute or read, one by one.
-/
import Derived.Test.YtdfpenjhpemokaaSxD
import Derived.Laws.Entries
set_option linter.unusedVariables false
set_option linter.unusedSimpArgs false
namespace Go.Proofs.Ytdfpenjhpemokaa.Sx
open Go.RowKit (Below)

def isConstO : Operand → Bool
  | .const _ => true
  | _ => false
/-- A comparison or a sum of two values of one kind; nk: is one of the operands a constant? -/
def sBin (P : Program) (op : BinOp) (t : TypeId) (nk : Bool) (x y : SV) : Option SV :=
  match x, y with
  | .int k a, .int k' b =>
    if op = .shr then if b.lo = b.hi ∧ 0 ≤ b.lo ∧ b.lo ≤ 62 ∧ k.bits = 64 then some (.int k ⟨.bin .div a.e (.c (2 ^ b.lo.toNat)), a.lo / 2 ^ b.lo.toNat, a.hi / 2 ^ b.lo.toNat⟩) else none
    else if k = k' then
      match op with
      | .add => some (.int k (radd k a b))
      | .sub => some (.int k (rsub k a b))
      | .mul => some (.int k (rmul k a b))
      | .quo => if 1 ≤ b.lo then some (.int k (rquo k a b)) else none
      | .rem => if 1 ≤ b.lo then some (.int k (rrem a b)) else none
      | .eql => some (.bool (req a b))
      | .neq => some (.bool (mkNot (req a b)))
      | .lss => some (.bool (rlt a b))
      | .leq => some (.bool (rle a b))
      | .gtr => some (.bool (rlt b a))
      | .geq => some (.bool (rle b a))
      | _ => none
    else none
  | .bool a, .bool b =>
    match P.underlying t, op with
    | some .bool, .eql => some (.bool (mkBeq a b))
    | some .bool, .neq => some (.bool (mkNot (mkBeq a b)))
    | _, _ => none
  | x, .nili =>
    match P.underlying t with
    | some (.interface _) =>
      if nk then
        match x with
        | .nili => match op with | .eql => some (.bool (.bc true)) | .neq => some (.bool (.bc false)) | _ => none
        | .ifc _ _ => match op with | .eql => some (.bool (.bc false)) | .neq => some (.bool (.bc true)) | _ => none
        | .err r => match op with | .eql => some (.bool (req r ⟨.c 0, 0, 0⟩)) | .neq => some (.bool (mkNot (req r ⟨.c 0, 0, 0⟩))) | _ => none
        | _ => none
      else none
    | _ => none
  | _, _ => none

theorem beq_dec (a b : Int) : (a == b) = decide (a = b) := by by_cases h : a = b <;> simp [h]
theorem eqIn_bool {P : Program} {t : TypeId} (d : Nat) (hu : P.underlying t = some .bool) (a c : Bool) (w : World) : (Op.equalIn (d + 1) t (.bool a) (.bool c)).run P w = .ok (a == c) w := by
  simp [Op.equalIn, run_underlying hu]
theorem eqIn_nil {P : Program} {t : TypeId} (d : Nat) {m : Array (String × TypeId)} (hu : P.underlying t = some (.interface m)) (w : World) : (Op.equalIn (d + 1) t .nilIface .nilIface).run P w = .ok true w := by
  simp [Op.equalIn, run_underlying hu]
theorem eqIn_some {P : Program} {t : TypeId} (d : Nat) {m : Array (String × TypeId)} (hu : P.underlying t = some (.interface m)) (u : TypeId) (v : Value) (w : World) : (Op.equalIn (d + 1) t (.iface u v) .nilIface).run P w = .ok false w := by
  simp [Op.equalIn, run_underlying hu]
theorem run_eql {P : Program} {t : TypeId} {x y : Value} {r : Bool} {w : World} (h : (Op.equalIn (9999 + 1) t x y).run P w = .ok r w) :
    ((do pure (.bool (← Op.equal t x y)) : Sem Value).run P w = .ok (.bool r) w) ∧ ((do pure (.bool (!(← Op.equal t x y))) : Sem Value).run P w = .ok (.bool (!r)) w) := by
  have h' : (Op.equal t x y).run P w = .ok r w := h
  constructor <;> simp only [Sem.run_bind, h', Result.andThen] <;> rfl
theorem lit0_ok (ρ : Env) (z : Int) : R.ok ρ ⟨.c z, z, z⟩ := ⟨Int.le_refl _, Int.le_refl _⟩

theorem sBin_ok {P : Program} {op : BinOp} {t yt : TypeId} {xo yo : Operand} {x y v : SV} {ρ : Env} {b : Bd} {N : Nat → Prop} (h : sBin P op t (isConstO xo || isConstO yo) x y = some v) (hx : x.ok ρ N) (hy : y.ok ρ N) (w : World) :
    (do eqGuard op t xo yo (x.den ρ b) (y.den ρ b); binOp op t (x.den ρ b) (y.den ρ b) : Sem Value).run P w = .ok (v.den ρ b) w ∧ v.ok ρ N := by
  unfold sBin at h
  split at h
  · rename_i k a k' c
    split at h
    · rename_i hop
      subst hop
      split at h
      · rename_i h1
        obtain ⟨h1, h2, h3, h4⟩ := h1
        cases h
        obtain ⟨y1, y2⟩ := hy
        obtain ⟨x1, x2⟩ := hx
        have e1 : c.e.i ρ = c.lo := by omega
        have e2 : min (c.lo.toNat) k.bits = c.lo.toNat := by rw [h4]; omega
        have hp : (0 : Int) < 2 ^ c.lo.toNat := Int.pow_pos (by omega)
        refine ⟨?_, ?_, ?_⟩
        · have g : (eqGuard BinOp.shr t xo yo (.int k (a.e.i ρ)) (.int k' (c.e.i ρ))).run P w = .ok () w := by
            unfold eqGuard; simp
          simp only [SV.den, Sem.run_bind, g, Result.andThen]
          simp only [binOp, Op.shift, e1, e2]
          rw [if_neg (by omega), Int.fdiv_eq_ediv_of_nonneg _ (Int.le_of_lt hp)]
          simp [E.i]
        · exact Int.ediv_le_ediv hp x1
        · exact Int.ediv_le_ediv hp x2
      · cases h
    rename_i hns
    split at h
    · rename_i hk
      subst hk
      have g : (eqGuard op t xo yo (.int k (a.e.i ρ)) (.int k (c.e.i ρ))).run P w = .ok () w := by
        unfold eqGuard; split <;> simp
      simp only [SV.den, Sem.run_bind, g, Result.andThen]
      cases op <;> simp only at h
      case add => cases h; have := radd_ok k hx hy; exact ⟨by simp [binOp, Op.intArith, SV.den, this.2], this.1⟩
      case sub => cases h; have := rsub_ok k hx hy; exact ⟨by simp [binOp, Op.intArith, SV.den, this.2], this.1⟩
      case mul => cases h; have := rmul_ok k hx hy; exact ⟨by simp [binOp, Op.intArith, SV.den, this.2], this.1⟩
      case quo =>
        split at h
        · rename_i h1
          cases h
          have := rquo_ok k hx hy h1
          have hne : c.e.i ρ ≠ 0 := by have := hy.1; omega
          exact ⟨by simp [binOp, Op.intDiv, SV.den, this.2, hne], this.1⟩
        · cases h
      case rem =>
        split at h
        · rename_i h1
          cases h
          have := rrem_ok hx hy h1
          have hne : c.e.i ρ ≠ 0 := by have := hy.1; omega
          exact ⟨by simp [binOp, Op.intDiv, SV.den, this.2, hne], this.1⟩
        · cases h
      case eql => cases h; exact ⟨by simp [binOp, Op.intCmp, SV.den, req_b hx hy, beq_dec], trivial⟩
      case neq => cases h; exact ⟨by simp [binOp, Op.intCmp, SV.den, mkNot_b, req_b hx hy, bne, beq_dec], trivial⟩
      case lss => cases h; exact ⟨by simp [binOp, Op.intCmp, SV.den, rlt_b hx hy], trivial⟩
      case leq => cases h; exact ⟨by simp [binOp, Op.intCmp, SV.den, rle_b hx hy], trivial⟩
      case gtr => cases h; exact ⟨by simp [binOp, Op.intCmp, SV.den, rlt_b hy hx], trivial⟩
      case geq => cases h; exact ⟨by simp [binOp, Op.intCmp, SV.den, rle_b hy hx], trivial⟩
      all_goals cases h
    · cases h
  · rename_i a c
    have g : (eqGuard op t xo yo (.bool (a.b ρ)) (.bool (c.b ρ))).run P w = .ok () w := by
      unfold eqGuard; split <;> simp
    simp only [SV.den, Sem.run_bind, g, Result.andThen]
    split at h
    · rename_i hu
      cases h
      exact ⟨by simp only [SV.den, mkBeq_b]; exact (run_eql (eqIn_bool 9999 hu _ _ w)).1, trivial⟩
    · rename_i hu
      cases h
      exact ⟨by simp only [SV.den, mkBeq_b, mkNot_b]; exact (run_eql (eqIn_bool 9999 hu _ _ w)).2, trivial⟩
    · cases h
  · split at h
    · rename_i hu
      split at h
      · rename_i hnk
        split at h
        · have g : (eqGuard op t xo yo .nilIface .nilIface).run P w = .ok () w := by
            cases xo <;> cases yo <;> simp [isConstO] at hnk <;> cases op <;> simp [eqGuard]
          simp only [SV.den, Sem.run_bind, g, Result.andThen]
          cases op <;> simp only at h <;> cases h
          · exact ⟨(run_eql (eqIn_nil 9999 hu w)).1, trivial⟩
          · exact ⟨(run_eql (eqIn_nil 9999 hu w)).2, trivial⟩
        · rename_i ti vi
          have g : (eqGuard op t xo yo (.iface ti (vi.den ρ b)) .nilIface).run P w = .ok () w := by
            unfold eqGuard; split <;> simp
          simp only [SV.den, Sem.run_bind, g, Result.andThen]
          cases op <;> simp only at h <;> cases h
          · exact ⟨(run_eql (eqIn_some 9999 hu _ _ w)).1, trivial⟩
          · exact ⟨(run_eql (eqIn_some 9999 hu _ _ w)).2, trivial⟩
        · rename_i r
          have hr := req_b hx (lit0_ok ρ 0)
          simp only [SV.den]
          split
          · rename_i h0
            have hr' : (req r ⟨.c 0, 0, 0⟩).b ρ = true := by rw [hr]; simp [h0, E.i]
            have g : (eqGuard op t xo yo .nilIface .nilIface).run P w = .ok () w := by
              cases xo <;> cases yo <;> simp [isConstO] at hnk <;> cases op <;> simp [eqGuard]
            simp only [Sem.run_bind, g, Result.andThen]
            cases op <;> simp only at h <;> cases h
            · exact ⟨by simp only [SV.den, hr']; exact (run_eql (eqIn_nil 9999 hu w)).1, trivial⟩
            · exact ⟨by simp only [SV.den, mkNot_b, hr']; exact (run_eql (eqIn_nil 9999 hu w)).2, trivial⟩
          · rename_i h0
            have hr' : (req r ⟨.c 0, 0, 0⟩).b ρ = false := by rw [hr]; simp [h0, E.i]
            have g : (eqGuard op t xo yo (.iface ρ.et (.int .i64 (r.e.i ρ))) .nilIface).run P w = .ok () w := by
              unfold eqGuard; split <;> simp
            simp only [Sem.run_bind, g, Result.andThen]
            cases op <;> simp only at h <;> cases h
            · exact ⟨by simp only [SV.den, hr']; exact (run_eql (eqIn_some 9999 hu _ _ w)).1, trivial⟩
            · exact ⟨by simp only [SV.den, mkNot_b, hr']; exact (run_eql (eqIn_some 9999 hu _ _ w)).2, trivial⟩
        · cases h
      · cases h
    · cases h
  · cases h

def sUn (op : UnOp) (x : SV) : Option SV :=
  match op, x with
  | .neg, .int k a => some (.int k (rsub k ⟨.c 0, 0, 0⟩ a))
  | .not, .bool a => some (.bool (mkNot a))
  | _, _ => none
theorem sUn_ok {P : Program} {op : UnOp} {x v : SV} {ρ : Env} {b : Bd} {N : Nat → Prop} (h : sUn op x = some v) (hx : x.ok ρ N) (w : World) : (Op.unary op (x.den ρ b)).run P w = .ok (v.den ρ b) w ∧ v.ok ρ N := by
  unfold sUn at h
  split at h
  · cases h
    have := rsub_ok (ρ := ρ) ‹_› (lit0_ok ρ 0) hx
    exact ⟨by simp only [SV.den, Op.unary, Op.intArith, this.2]; rfl, this.1⟩
  · cases h
    exact ⟨by simp [SV.den, Op.unary, mkNot_b], trivial⟩
  · cases h

def sConv (P : Program) (src dst : TypeId) (x : SV) : Option SV :=
  match x with
  | .int _ r =>
    match P.underlying src, P.underlying dst with
    | some _, some (.int k) => some (.int k (fit k r.e r.lo r.hi))
    | _, _ => none
  | _ => none
theorem sConv_ok {P : Program} {src dst : TypeId} {x v : SV} {ρ : Env} {b : Bd} {N : Nat → Prop} (h : sConv P src dst x = some v) (hx : x.ok ρ N) (w : World) : (convert src dst (x.den ρ b)).run P w = .ok (v.den ρ b) w ∧ v.ok ρ N := by
  unfold sConv at h
  split at h
  · rename_i k0 r
    split at h
    · rename_i d k hs hd
      cases h
      have := fit_ok ρ k r.e r.lo r.hi hx.1 hx.2
      exact ⟨by simp [convert, run_underlying hs, run_underlying hd, Conv.intToInt, SV.den, this.2], this.1⟩
    · cases h
  · cases h

/-- A choice of two values by a boolean. -/
def mrg (et : TypeId) (d : E) : SV → SV → Option SV
  | .int k a, .int j c => if k = j then some (.int k (rite d a c)) else none
  | .bool a, .bool c => some (.bool (mkIteB d a c))
  | .nilp, .nilp => some .nilp
  | .ptr n o, .ptr m p => if n = m ∧ o = p then some (.ptr n o) else none
  | .nils, .nils => some .nils
  | .sl n o l c, .sl m p k e => if n = m ∧ o = p ∧ l = k ∧ c = e then some (.sl n o l c) else none
  | .slv n o l, .slv m p k => if n = m ∧ o = p ∧ l.e.same k.e = true ∧ l.lo = k.lo ∧ l.hi = k.hi then some (.slv n o l) else none
  | .esl n i, .esl m j => if n = m ∧ i.same j = true then some (.esl n i) else none
  | .osl n s l, .osl m t k => if n = m ∧ s = t ∧ l.e.same k.e = true ∧ l.lo = k.lo ∧ l.hi = k.hi then some (.osl n s l) else none
  | .nili, .nili => some .nili
  | .err a, .err c => some (.err (rite d a c))
  | .nili, .err c => some (.err (rite d ⟨.c 0, 0, 0⟩ c))
  | .err a, .nili => some (.err (rite d a ⟨.c 0, 0, 0⟩))
  | .ifc t (.int .i64 a), .nili => if t = et ∧ 1 ≤ a.lo then some (.err (rite d a ⟨.c 0, 0, 0⟩)) else none
  | .nili, .ifc t (.int .i64 a) => if t = et ∧ 1 ≤ a.lo then some (.err (rite d ⟨.c 0, 0, 0⟩ a)) else none
  | .ifc t (.int .i64 a), .err c => if t = et ∧ 1 ≤ a.lo then some (.err (rite d a c)) else none
  | .err c, .ifc t (.int .i64 a) => if t = et ∧ 1 ≤ a.lo then some (.err (rite d c a)) else none
  | .ifc t (.int k a), .ifc u (.int j c) => if t = u ∧ k = j then some (.ifc t (.int k (rite d a c))) else none
  | .nilf, .nilf => some .nilf
  | _, _ => none
end Go.Proofs.Ytdfpenjhpemokaa.Sx
