/-
  A verified symbolic executor, part 13b: great terms get names of their own; what the names stand for is left to be shown.
-/
import Derived.Test.YtdfpenjhpemokaaSxM
set_option linter.unusedVariables false
set_option linter.unusedSimpArgs false
namespace Go.Proofs.Ytdfpenjhpemokaa.Sx
open Go.RowKit (Below)

/-- What of a count is left behind a term's parts. -/
def E.left : E → Nat → Nat
  | .un _ a, n => if n = 0 then 0 else a.left (n - 1)
  | .bin _ a b, n => if n = 0 then 0 else b.left (a.left (n - 1))
  | .ite d a b, n => if n = 0 then 0 else b.left (a.left (d.left (n - 1)))
  | .ap _ a, n => if n = 0 then 0 else a.left (n - 1)
  | .cons a b, n => if n = 0 then 0 else b.left (a.left (n - 1))
  | _, n => n - 1
def kNo : IntKind → Nat
  | .i8 => 1 | .i16 => 2 | .i32 => 3 | .i64 => 4 | .u8 => 5 | .u16 => 6 | .u32 => 7 | .u64 => 8
def BOp.no : BOp → Nat
  | .add => 11 | .sub => 12 | .mul => 13 | .quo => 14 | .rem => 15 | .div => 16 | .mod => 17 | .min => 18 | .max => 19 | .lt => 20 | .le => 21 | .eq => 22 | .and => 23 | .or => 24 | .app => 25
def hmix (a b : Nat) : Nat := (a * 1000003 + b * 998244353 + 12345) % 2305843009213693951
/-- A term's number: terms of one text have one number. -/
def E.hash : E → Nat
  | .v n => hmix 1 n
  | .bv n => hmix 2 n
  | .c z => match z with
    | .ofNat n => hmix 3 n
    | .negSucc n => hmix 4 n
  | .bc b => if b then 5 else 6
  | .un o a => hmix (match o with | .not => 7 | .wrap k => 30 + kNo k) a.hash
  | .bin o a b => hmix (hmix (100 + o.no) a.hash) b.hash
  | .ite d a b => hmix (hmix (hmix 8 d.hash) a.hash) b.hash
  | .ap k a => hmix (hmix 9 k) a.hash
  | .nil => 10
  | .cons a b => hmix (hmix 11 a.hash) b.hash
def nmNo (e : E) : Nat := e.hash + 1000
def E.big (k : Nat) (e : E) : Bool := Nat.beq (e.left k) 0
def R.nm (k : Nat) (r : R) : R := if r.e.big k then ⟨.v (nmNo r.e), r.lo, r.hi⟩ else r
def R.nmc (k : Nat) (r : R) : List VC := if r.e.big k then [⟨[], .bin .eq (.v (nmNo r.e)) r.e⟩] else []
def E.nm (k : Nat) (e : E) : E := if e.big k then .bv (nmNo e) else e
def E.nmc (k : Nat) (e : E) : List VC := if e.big k then [⟨[], .ite (.bv (nmNo e)) e (.un .not e)⟩] else []
theorem VC.holds_nil {ρ : Env} {e : E} (h : VC.holds ρ ⟨[], e⟩) : e.b ρ = true := h (allB_nil ρ)
theorem R.nm_i {ρ : Env} {k : Nat} {r : R} (h : allV ρ (r.nmc k)) : (r.nm k).e.i ρ = r.e.i ρ ∧ (r.nm k).lo = r.lo ∧ (r.nm k).hi = r.hi := by
  unfold R.nm
  unfold R.nmc at h
  split
  · rename_i hb
    rw [if_pos hb] at h
    have := VC.holds_nil (h _ (.head _))
    simp only [E.b, decide_eq_true_eq] at this
    exact ⟨this, rfl, rfl⟩
  · exact ⟨rfl, rfl, rfl⟩
theorem R.nm_ok {ρ : Env} {k : Nat} {r : R} (h : allV ρ (r.nmc k)) (hr : r.ok ρ) : (r.nm k).ok ρ := by
  obtain ⟨h1, h2, h3⟩ := R.nm_i h
  unfold R.ok
  rw [h1, h2, h3]
  exact hr
theorem E.nm_b {ρ : Env} {k : Nat} {e : E} (h : allV ρ (e.nmc k)) : (e.nm k).b ρ = e.b ρ := by
  unfold E.nm
  unfold E.nmc at h
  split
  · rename_i hb
    rw [if_pos hb] at h
    have := VC.holds_nil (h _ (.head _))
    simp only [E.b] at this
    simp only [E.b]
    cases h1 : ρ.bv (nmNo e) <;> simp_all
  · rfl
mutual
def SV.nm (k : Nat) : SV → SV
  | .int j r => .int j (r.nm k)
  | .bool e => .bool (e.nm (k + k))
  | .err r => .err (r.nm k)
  | .agg l => .agg (SV.nmL k l)
  | .tup l => .tup (SV.nmL k l)
  | .ifc t v => .ifc t (v.nm k)
  | v => v
def SV.nmL (k : Nat) : List SV → List SV
  | [] => []
  | a :: l => a.nm k :: SV.nmL k l
end
mutual
def SV.nmc (k : Nat) : SV → List VC
  | .int _ r => r.nmc k
  | .bool e => e.nmc (k + k)
  | .err r => r.nmc k
  | .agg l => SV.nmcL k l
  | .tup l => SV.nmcL k l
  | .ifc _ v => v.nmc k
  | _ => []
def SV.nmcL (k : Nat) : List SV → List VC
  | [] => []
  | a :: l => a.nmc k ++ SV.nmcL k l
end
mutual
theorem SV.nm_ok {ρ : Env} {k : Nat} (b : Bd) {N : Nat → Prop} : (v : SV) → allV ρ (v.nmc k) → v.ok ρ N → (v.nm k).den ρ b = v.den ρ b ∧ (v.nm k).ok ρ N
  | .int j r, h, hr => ⟨by simp only [SV.nm, SV.den, (R.nm_i h).1], R.nm_ok h hr⟩
  | .bool e, h, _ => ⟨by simp only [SV.nm, SV.den, E.nm_b h], trivial⟩
  | .err r, h, hr => ⟨by simp only [SV.nm, SV.den, (R.nm_i h).1], R.nm_ok h hr⟩
  | .agg l, h, hr => by
    have := SV.nmL_ok b l h hr
    exact ⟨by simp only [SV.nm, SV.den, this.1], this.2⟩
  | .tup l, h, hr => by
    have := SV.nmL_ok b l h hr
    exact ⟨by simp only [SV.nm, SV.den, this.1], this.2⟩
  | .ifc t v, h, hr => by
    have := SV.nm_ok b v h hr
    exact ⟨by simp only [SV.nm, SV.den, this.1], this.2⟩
  | .nilp, _, h => ⟨rfl, h⟩
  | .ptr _ _, _, h => ⟨rfl, h⟩
  | .nils, _, h => ⟨rfl, h⟩
  | .sl _ _ _ _, _, h => ⟨rfl, h⟩
  | .slv _ _ _, _, h => ⟨rfl, h⟩
  | .emp _, _, h => ⟨rfl, h⟩
  | .osl _ _ _, _, h => ⟨rfl, h⟩
  | .optr _ _ _ _, _, h => ⟨rfl, h⟩
  | .esl _ _, _, h => ⟨rfl, h⟩
  | .nili, _, h => ⟨rfl, h⟩
  | .nilf, _, h => ⟨rfl, h⟩
  | .fn _ _, _, h => ⟨rfl, h⟩
  | .con _, _, h => ⟨rfl, h⟩
theorem SV.nmL_ok {ρ : Env} {k : Nat} (b : Bd) {N : Nat → Prop} : (l : List SV) → allV ρ (SV.nmcL k l) → SV.okL ρ N l → SV.denL ρ b (SV.nmL k l) = SV.denL ρ b l ∧ SV.okL ρ N (SV.nmL k l)
  | [], _, _ => ⟨rfl, trivial⟩
  | a :: l, hv, h => by
    rw [SV.nmcL, allV_app] at hv
    have h1 := SV.nm_ok b a hv.1 h.1
    have h2 := SV.nmL_ok b l hv.2 h.2
    exact ⟨by simp only [SV.nmL, SV.denL, h1.1, h2.1], h1.2, h2.2⟩
end
theorem allV_flat {ρ : Env} {α : Type} {f : α → List VC} {l : List α} (h : allV ρ (l.flatMap f)) {x : α} (hx : x ∈ l) : allV ρ (f x) :=
  fun v hv => h v (List.mem_flatMap.2 ⟨x, hx, hv⟩)
theorem find_mapM {α : Type} (f : α → α) {L : List (Nat × α)} {n : Nat} {e : α} (h : find (L.map fun x => (x.1, f x.2)) n = some e) : ∃ e', find L n = some e' ∧ (n, e') ∈ L ∧ e = f e' := by
  rw [find_map f] at h
  rw [Option.map_eq_some_iff] at h
  obtain ⟨e', h1, rfl⟩ := h
  exact ⟨e', h1, find_mem h1, rfl⟩
def heapNm (k : Nat) (H : List (Nat × HEnt)) : List (Nat × HEnt) := H.map fun x => (x.1, { x.2 with blk := { x.2.blk with cells := SV.nmL k x.2.blk.cells } })
def heapNmc (k : Nat) (H : List (Nat × HEnt)) : List VC := H.flatMap fun x => SV.nmcL k x.2.blk.cells
theorem HRel.nm {ρ : Env} {k : Nat} {b : Bd} {base : Nat → Prop} {w : World} {H : List (Nat × HEnt)} {N : Nat → Prop} (hv : allV ρ (heapNmc k H)) (h : HRel ρ b base w H N) : HRel ρ b base w (heapNm k H) N where
  mem := fun n e hf hg => by
    obtain ⟨e', hf', hm, rfl⟩ := find_mapM (fun x : HEnt => { x with blk := { x.blk with cells := SV.nmL k x.blk.cells } }) hf
    obtain ⟨h1, h2, h3⟩ := h.mem n e' hf' hg
    have := SV.nmL_ok b _ (allV_flat hv hm) h3
    exact ⟨h1, h2.cells this.1, this.2⟩
  inj := fun n m e j hf hk hg hgk ho hok heq => by
    obtain ⟨e', hf', hm, rfl⟩ := find_mapM (fun x : HEnt => { x with blk := { x.blk with cells := SV.nmL k x.blk.cells } }) hf
    obtain ⟨k', hk', hm', rfl⟩ := find_mapM (fun x : HEnt => { x with blk := { x.blk with cells := SV.nmL k x.blk.cells } }) hk
    exact h.inj n m e' k' hf' hk' hg hgk ho hok heq
def St.nm (k : Nat) (S : St) : St := { S with tmps := S.tmps.map fun x => (x.1, { x.2 with sv := x.2.sv.nm k }), heap := heapNm k S.heap }
def St.nmc (k : Nat) (S : St) : List VC := (S.tmps.flatMap fun x => x.2.sv.nmc k) ++ heapNmc k S.heap
theorem Rel.nm {ρ : Env} {k : Nat} {b : Bd} {base : Nat → Prop} {w0 w : World} {S : St} {tm : Array Value} (hv : allV ρ (S.nmc k)) (h : Rel ρ b base w0 w S tm) : Rel ρ b base w0 w (S.nm k) tm := by
  rw [St.nmc, allV_app] at hv
  refine ⟨h.heap.nm hv.2, fun i e hf => ?_, h.below, h.base, h.nt, h.kept⟩
  obtain ⟨e', hf', hm, rfl⟩ := find_mapM (fun x : Ent => { x with sv := x.sv.nm k }) hf
  obtain ⟨h1, h2⟩ := h.tmps i e' hf'
  refine ⟨fun hg => ?_, h2⟩
  obtain ⟨h3, h4⟩ := h1 hg
  have := SV.nm_ok b _ (allV_flat hv.1 hm) h4
  exact ⟨by rw [this.1]; exact h3, this.2⟩
def T.vcs {α : Type} (f : α → List VC) : T α → List VC
  | .leaf x => f x
  | .node _ t u => T.vcs f t ++ T.vcs f u
theorem T.vcs_at {α : Type} {f : α → List VC} {ρ : Env} {t : T α} (h : allV ρ (t.vcs f)) : allV ρ (f (t.at ρ)) := by
  induction t with
  | leaf x => exact h
  | node c t u iht ihu =>
    rw [T.vcs, allV_app] at h
    simp only [T.at]
    split
    · exact iht h.1
    · exact ihu h.2
/-! The same, worked out part by part: the kernel keeps what it has not worked out as it was written. -/
def force {α : Type} (n : Nat) (k : Nat → α) : α := match n with
  | 0 => k 0
  | m + 1 => k (m + 1)
theorem force_eq {α : Type} (n : Nat) (k : Nat → α) : force n k = k n := by cases n <;> rfl
def forceI {α : Type} (z : Int) (k : Int → α) : α := match z with
  | .ofNat n => force n fun n => k (.ofNat n)
  | .negSucc n => force n fun n => k (.negSucc n)
theorem forceI_eq {α : Type} (z : Int) (k : Int → α) : forceI z k = k z := by cases z <;> simp [forceI, force_eq]
def forceE {α : Type} (e : E) (k : E → α) : α := match e with
  | .v n => force n fun n => k (.v n)
  | .bv n => force n fun n => k (.bv n)
  | .c z => forceI z fun z => k (.c z)
  | .bc true => k (.bc true)
  | .bc false => k (.bc false)
  | .un o a => k (.un o a)
  | .bin o a b => k (.bin o a b)
  | .ite d a b => k (.ite d a b)
  | .ap f a => k (.ap f a)
  | .nil => k .nil
  | .cons a b => k (.cons a b)
theorem forceE_eq {α : Type} (e : E) (k : E → α) : forceE e k = k e := by
  unfold forceE
  split <;> simp [force_eq, forceI_eq]
def R.nmF {β : Type} (k : Nat) (r : R) (c : R → List VC → β) : β := match r with
  | ⟨e, lo, hi⟩ => forceE e fun e => forceI lo fun lo => forceI hi fun hi => match e.big k with
    | true => force (nmNo e) fun n => c ⟨.v n, lo, hi⟩ [⟨[], .bin .eq (.v n) e⟩]
    | false => c ⟨e, lo, hi⟩ []
theorem R.nmF_eq {β : Type} (k : Nat) (r : R) (c : R → List VC → β) : r.nmF k c = c (r.nm k) (r.nmc k) := by
  obtain ⟨e, lo, hi⟩ := r
  simp only [R.nmF, R.nm, R.nmc, forceE_eq, forceI_eq, force_eq]
  cases h : e.big k <;> simp
def E.nmF {β : Type} (k : Nat) (e : E) (c : E → List VC → β) : β := forceE e fun e => match e.big k with
  | true => force (nmNo e) fun n => c (.bv n) [⟨[], .ite (.bv n) e (.un .not e)⟩]
  | false => c e []
theorem E.nmF_eq {β : Type} (k : Nat) (e : E) (c : E → List VC → β) : e.nmF k c = c (e.nm k) (e.nmc k) := by
  simp only [E.nmF, E.nm, E.nmc, forceE_eq, force_eq]
  cases h : e.big k <;> simp
def forceO {α : Type} (o : Option Nat) (k : Option Nat → α) : α := match o with
  | some n => force n fun n => k (some n)
  | none => k none
theorem forceO_eq {α : Type} (o : Option Nat) (k : Option Nat → α) : forceO o k = k o := by cases o <;> simp [forceO, force_eq]
mutual
def SV.nmF {β : Type} (k : Nat) : SV → (SV → List VC → β) → β
  | .int j r, c => r.nmF k fun r v => c (.int j r) v
  | .bool e, c => e.nmF (k + k) fun e v => c (.bool e) v
  | .err r, c => r.nmF k fun r v => c (.err r) v
  | .agg l, c => SV.nmFL k l fun l v => c (.agg l) v
  | .tup l, c => SV.nmFL k l fun l v => c (.tup l) v
  | .ifc t x, c => x.nmF k fun x v => c (.ifc t x) v
  | .ptr n o, c => force n fun n => force o fun o => c (.ptr n o) []
  | .sl n o l p, c => force n fun n => force o fun o => force l fun l => forceO p fun p => c (.sl n o l p) []
  | .slv n o l, c => c (.slv n o l) []
  | .emp k, c => c (.emp k) []
  | .osl n s l, c => c (.osl n s l) []
  | .optr n s i o, c => force o fun o => c (.optr n s i o) []
  | .esl n i, c => c (.esl n i) []
  | .nilp, c => c .nilp []
  | .nils, c => c .nils []
  | .nili, c => c .nili []
  | .nilf, c => c .nilf []
  | .fn f l, c => c (.fn f l) []
  | .con x, c => c (.con x) []
def SV.nmFL {β : Type} (k : Nat) : List SV → (List SV → List VC → β) → β
  | [], c => c [] []
  | a :: l, c => a.nmF k fun a v => SV.nmFL k l fun l w => c (a :: l) (v ++ w)
end
mutual
theorem SV.nmF_eq {β : Type} (k : Nat) : (x : SV) → (c : SV → List VC → β) → x.nmF k c = c (x.nm k) (x.nmc k)
  | .int j r, c => by simp only [SV.nmF, R.nmF_eq, SV.nm, SV.nmc]
  | .bool e, c => by simp only [SV.nmF, E.nmF_eq, SV.nm, SV.nmc]
  | .err r, c => by simp only [SV.nmF, R.nmF_eq, SV.nm, SV.nmc]
  | .agg l, c => by simp only [SV.nmF, SV.nmFL_eq k l, SV.nm, SV.nmc]
  | .tup l, c => by simp only [SV.nmF, SV.nmFL_eq k l, SV.nm, SV.nmc]
  | .ifc t x, c => by simp only [SV.nmF, SV.nmF_eq k x, SV.nm, SV.nmc]
  | .ptr n o, c => by simp only [SV.nmF, force_eq]; rfl
  | .sl n o l p, c => by simp only [SV.nmF, force_eq, forceO_eq]; rfl
  | .slv _ _ _, c => rfl
  | .emp _, c => rfl
  | .osl _ _ _, c => rfl
  | .optr _ _ _ o, c => by simp only [SV.nmF, force_eq]; rfl
  | .esl _ _, c => rfl
  | .nilp, c => rfl
  | .nils, c => rfl
  | .nili, c => rfl
  | .nilf, c => rfl
  | .fn _ _, c => rfl
  | .con _, c => rfl
theorem SV.nmFL_eq {β : Type} (k : Nat) : (x : List SV) → (c : List SV → List VC → β) → SV.nmFL k x c = c (SV.nmL k x) (SV.nmcL k x)
  | [], c => rfl
  | a :: l, c => by simp only [SV.nmFL, SV.nmF_eq k a, SV.nmFL_eq k l, SV.nmL, SV.nmcL]
end
def tmpsF {β : Type} (k : Nat) : List (Nat × Ent) → (List (Nat × Ent) → List VC → β) → β
  | [], c => c [] []
  | (n, ⟨g, x⟩) :: r, c => force n fun n => x.nmF k fun x v => tmpsF k r fun r w => c ((n, ⟨g, x⟩) :: r) (v ++ w)
theorem tmpsF_eq {β : Type} (k : Nat) : ∀ (l : List (Nat × Ent)) (c : List (Nat × Ent) → List VC → β), tmpsF k l c = c (l.map fun x => (x.1, { x.2 with sv := x.2.sv.nm k })) (l.flatMap fun x => x.2.sv.nmc k) := by
  intro l
  induction l with
  | nil => intro c; rfl
  | cons a l ih =>
    obtain ⟨n, g, x⟩ := a
    intro c
    simp only [tmpsF, force_eq, SV.nmF_eq, ih, List.map_cons, List.flatMap_cons]
def heapF {β : Type} (k : Nat) : List (Nat × HEnt) → (List (Nat × HEnt) → List VC → β) → β
  | [], c => c [] []
  | (n, ⟨g, ⟨cs, t, kd⟩⟩) :: r, c => force n fun n => SV.nmFL k cs fun cs v => heapF k r fun r w => c ((n, ⟨g, ⟨cs, t, kd⟩⟩) :: r) (v ++ w)
theorem heapF_eq {β : Type} (k : Nat) : ∀ (l : List (Nat × HEnt)) (c : List (Nat × HEnt) → List VC → β), heapF k l c = c (heapNm k l) (heapNmc k l) := by
  intro l
  induction l with
  | nil => intro c; rfl
  | cons a l ih =>
    obtain ⟨n, g, cs, t, kd⟩ := a
    intro c
    simp only [heapF, force_eq, SV.nmFL_eq, ih, heapNm, heapNmc, List.map_cons, List.flatMap_cons]
def St.nmF {β : Type} (k : Nat) (S : St) (c : St → List VC → β) : β := match S with
  | ⟨tm, H, nx, nt⟩ => force nx fun nx => force nt fun nt => tmpsF k tm fun tm v => heapF k H fun H w => c ⟨tm, H, nx, nt⟩ (v ++ w)
theorem St.nmF_eq {β : Type} (k : Nat) (S : St) (c : St → List VC → β) : S.nmF k c = c (S.nm k) (S.nmc k) := by
  obtain ⟨tm, H, nx, nt⟩ := S
  simp only [St.nmF, force_eq, tmpsF_eq, heapF_eq]
  rfl

def T.map {α β : Type} (f : α → β) : T α → T β
  | .leaf x => .leaf (f x)
  | .node c t u => .node c (T.map f t) (T.map f u)
theorem T.map_at {α β : Type} (f : α → β) (ρ : Env) (t : T α) : (t.map f).at ρ = f (t.at ρ) := by
  induction t with
  | leaf x => rfl
  | node c t u iht ihu => simp only [T.map, T.at]; split <;> assumption
/-- Great terms of a tree of states named. -/
def T.nmP (big : Nat) : T Lf → T Lf × List VC
  | .leaf l => (.leaf ⟨l.x, l.st.nm big⟩, l.st.nmc big)
  | .node c t u => (.node c (T.nmP big t).1 (T.nmP big u).1, (T.nmP big t).2 ++ (T.nmP big u).2)
theorem T.nmP_ok {ρ : Env} {big : Nat} {b : Bd} {base : Nat → Prop} {w0 w : World} {tm : Array Value} : ∀ (t : T Lf), allV ρ (T.nmP big t).2 → Rel ρ b base w0 w (t.at ρ).st tm → (((T.nmP big t).1).at ρ).x = (t.at ρ).x ∧ Rel ρ b base w0 w (((T.nmP big t).1).at ρ).st tm ∧ (((T.nmP big t).1).at ρ).st.next = (t.at ρ).st.next := by
  intro t
  induction t with
  | leaf l => exact fun hv h => ⟨rfl, h.nm hv, rfl⟩
  | node c t u iht ihu =>
    intro hv h
    rw [T.nmP, allV_app] at hv
    simp only [T.nmP, T.at] at h ⊢
    by_cases hc : c.b ρ = true
    · simp only [hc, if_true] at h ⊢; exact iht hv.1 h
    · simp only [hc] at h ⊢; exact ihu hv.2 h
/-- The same, worked out. -/
def T.nmF {β : Type} (big : Nat) : T Lf → (T Lf → List VC → β) → β
  | .leaf ⟨x, S⟩, c => S.nmF big fun S v => c (.leaf ⟨x, S⟩) v
  | .node d t u, c => T.nmF big t fun t v => T.nmF big u fun u w => c (.node d t u) (v ++ w)
theorem T.nmF_eq {β : Type} (big : Nat) : ∀ (t : T Lf) (c : T Lf → List VC → β), t.nmF big c = c (T.nmP big t).1 (T.nmP big t).2 := by
  intro t
  induction t with
  | leaf l => obtain ⟨x, S⟩ := l; intro c; simp only [T.nmF, St.nmF_eq, T.nmP]
  | node d t u iht ihu => intro c; simp only [T.nmF, iht, ihu, T.nmP]
def T.cnt {α : Type} : T α → Nat
  | .leaf _ => 1
  | .node _ t u => T.cnt t + T.cnt u
/-- States that meet; where some met, their great terms are named. -/
def T.nrm (et : TypeId) (k : Bool) (big n0 : Nat) (t : T Lf) (v : List VC) : T Lf × List VC :=
  match t with
  | .leaf l => (.leaf l, v)
  | .node c x y =>
    if Nat.ble (T.cnt (.node c x y)) (T.cnt (T.norm et k n0 (.node c x y))) then (T.norm et k n0 (.node c x y), v)
    else T.nmF big (T.norm et k n0 (.node c x y)) fun t' v' => (t', v ++ v')
theorem T.nrm_ok {et : TypeId} {ρ : Env} (he : ρ.et = et) {k : Bool} {big n0 : Nat} {t : T Lf} {v : List VC} (hv : allV ρ (T.nrm et k big n0 t v).2) :
    allV ρ v ∧ ∀ {b : Bd} {base : Nat → Prop} {w0 w : World} {tm : Array Value}, Rel ρ b base w0 w (t.at ρ).st tm → ((T.nrm et k big n0 t v).1.at ρ).x = (t.at ρ).x ∧ Rel ρ b base w0 w ((T.nrm et k big n0 t v).1.at ρ).st tm ∧ (t.at ρ).st.next ≤ ((T.nrm et k big n0 t v).1.at ρ).st.next := by
  cases t with
  | leaf l => exact ⟨hv, fun h => ⟨rfl, h, Nat.le_refl _⟩⟩
  | node c x y =>
    simp only [T.nrm] at hv ⊢
    split at hv
    · rename_i hc
      simp only [hc, if_true]
      exact ⟨hv, fun h => T.norm_ok he (k := k) (n0 := n0) _ h⟩
    · rename_i hc
      simp only [hc, Bool.false_eq_true, if_false]
      rw [T.nmF_eq] at hv ⊢
      simp only [allV_app] at hv
      refine ⟨hv.1, fun h => ?_⟩
      obtain ⟨n1, n2, n3⟩ := T.norm_ok he (k := k) (n0 := n0) _ h
      obtain ⟨m1, m2, m3⟩ := T.nmP_ok _ hv.2 n2
      exact ⟨m1.trans n1, m2, by rw [m3]; exact n3⟩
theorem nrm_some {et : TypeId} {k : Bool} {big n0 : Nat} {t r : T Lf} {v vs : List VC} (h : some (T.nrm et k big n0 t v) = some (r, vs)) : r = (T.nrm et k big n0 t v).1 ∧ vs = (T.nrm et k big n0 t v).2 := by
  have := Option.some.inj h
  rw [this]
  exact ⟨rfl, rfl⟩
/-- The value of an operation, named where it is great. -/
def bigK : Nat := 12
def SV.nmS {β : Type} (k : Nat) (x : SV) (c : SV → List VC → β) : β := match x with
  | .int j r => r.nmF k fun r v => c (.int j r) v
  | .bool e => e.nmF (k + k) fun e v => c (.bool e) v
  | .err r => r.nmF k fun r v => c (.err r) v
  | x => c x []
def SV.sc (k : Nat) (x : SV) : SV := match x with
  | .int j r => .int j (r.nm k)
  | .bool e => .bool (e.nm (k + k))
  | .err r => .err (r.nm k)
  | x => x
def SV.scc (k : Nat) (x : SV) : List VC := match x with
  | .int _ r => r.nmc k
  | .bool e => e.nmc (k + k)
  | .err r => r.nmc k
  | _ => []
theorem SV.nmS_eq {β : Type} (k : Nat) (x : SV) (c : SV → List VC → β) : x.nmS k c = c (x.sc k) (x.scc k) := by
  cases x <;> simp only [SV.nmS, SV.sc, SV.scc, R.nmF_eq, E.nmF_eq]
theorem SV.sc_ok {ρ : Env} {k : Nat} (b : Bd) {N : Nat → Prop} {v : SV} (h : allV ρ (v.scc k)) (hr : v.ok ρ N) : (v.sc k).den ρ b = v.den ρ b ∧ (v.sc k).ok ρ N := by
  cases v with
  | int j r => exact ⟨by simp only [SV.sc, SV.den, (R.nm_i h).1], R.nm_ok h hr⟩
  | bool e => exact ⟨by simp only [SV.sc, SV.den, E.nm_b h], trivial⟩
  | err r => exact ⟨by simp only [SV.sc, SV.den, (R.nm_i h).1], R.nm_ok h hr⟩
  | _ => exact ⟨rfl, hr⟩
end Go.Proofs.Ytdfpenjhpemokaa.Sx
