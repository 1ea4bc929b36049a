/-
  A verified symbolic executor, part 14: one operation behind its guard; calls.
-/
import Derived.Test.YtdfpenjhpemokaaSxMN
import Derived.Orders
set_option linter.unusedVariables false
set_option linter.unusedSimpArgs false
namespace Go.Proofs.Ytdfpenjhpemokaa.Sx
open Go.RowKit (Below)

/-- What a call leaves: its value, the named blocks, the next name. -/
structure CR where
  v : SV
  heap : List (Nat × HEnt)
  next : Nat
  deriving Inhabited
abbrev Handler := List E → FuncId → List SV → List (Nat × HEnt) → Nat → Option (T CR × List VC)
def HOK (P : Program) (ρ : Env) (h : Handler) : Prop :=
  ∀ pc f args H nx r vs, h pc f args H nx = some (r, vs) → allB ρ pc → allV ρ vs →
    ∀ b base w0 w, HRel ρ b base w H (· < nx) → Mem ρ base w0 → Kept base w0 w → (∀ k, base k → k < w.heap.size) → SV.okL ρ (· < nx) args →
      Calls P f (SV.denL ρ b args).toArray w fun e w' => ∃ b', e = .returned ((r.at ρ).v.den ρ b') ∧ Agree b b' (· < nx) ∧ HRel ρ b' base w' (r.at ρ).heap (· < (r.at ρ).next) ∧ (r.at ρ).v.ok ρ (· < (r.at ρ).next) ∧ Kept base w0 w' ∧ (∀ k, base k → k < w'.heap.size) ∧ nx ≤ (r.at ρ).next

/-! Parts of lists by number. -/
def restrict {α : Type} (f : Nat → α → Option α) (L : List (Nat × α)) : List (Nat × α) → List (Nat × α)
  | [] => []
  | (n, _) :: r => match (find L n).bind (f n) with
    | some e => (n, e) :: restrict f L r
    | none => restrict f L r
theorem restrict_mem {α : Type} {f : Nat → α → Option α} {L : List (Nat × α)} : ∀ {l : List (Nat × α)} {n : Nat} {e : α}, (n, e) ∈ restrict f L l → ∃ x, find L n = some x ∧ f n x = some e := by
  intro l
  induction l with
  | nil => intro n e h; cases h
  | cons a l ih =>
    obtain ⟨m, y⟩ := a
    intro n e h
    simp only [restrict] at h
    split at h
    · rename_i x hx
      cases h with
      | head =>
        rw [Option.bind_eq_some_iff] at hx
        exact hx
      | tail _ h => exact ih h
    · exact ih h
/-- A part of the named blocks, their cells as they are. -/
theorem HRel.partF {ρ : Env} {b : Bd} {base : Nat → Prop} {w : World} {H H' : List (Nat × HEnt)} {N : Nat → Prop} (h : HRel ρ b base w H N) (hp : ∀ n e, find H' n = some e → allB ρ e.g → ∃ x, find H n = some x ∧ x.blk = e.blk ∧ allB ρ x.g) : HRel ρ b base w H' N where
  mem := fun n e hf hg => by
    obtain ⟨x, h1, h2, h3⟩ := hp n e hf hg
    rw [← h2]
    exact h.mem n x h1 h3
  inj := fun n m e k hf hk hg hgk ho hok heq => by
    obtain ⟨x, h1, h2, h3⟩ := hp n e hf hg
    obtain ⟨y, k1, k2, k3⟩ := hp m k hk hgk
    exact h.inj n m x y h1 k1 h3 k3 (by rw [h2]; exact ho) (by rw [k2]; exact hok) heq
theorem HRel.part {ρ : Env} {b : Bd} {base : Nat → Prop} {w : World} {H H' : List (Nat × HEnt)} {N : Nat → Prop} (h : HRel ρ b base w H N) (hp : ∀ n e, (n, e) ∈ H' → ∃ x, find H n = some x ∧ x.blk = e.blk ∧ (allB ρ e.g → allB ρ x.g)) : HRel ρ b base w H' N :=
  h.partF fun n e hf hg => by
    obtain ⟨x, h1, h2, h3⟩ := hp n e (find_mem hf)
    exact ⟨x, h1, h2, h3 hg⟩
def visH (H : List (Nat × HEnt)) : List (Nat × HEnt) := restrict (fun _ e => if e.g.isEmpty then some e else none) H H
theorem HRel.vis {ρ : Env} {b : Bd} {base : Nat → Prop} {w : World} {H : List (Nat × HEnt)} {N : Nat → Prop} (h : HRel ρ b base w H N) : HRel ρ b base w (visH H) N :=
  h.part fun n e hm => by
    obtain ⟨x, h1, h2⟩ := restrict_mem hm
    split at h2
    · cases h2; exact ⟨_, h1, rfl, id⟩
    · cases h2
/-- The named blocks as things that are only read. -/
def farH (G : List E) (H : List (Nat × HEnt)) : List (Nat × HEnt) := restrict (fun _ e => if sub e.g G then some ⟨[], { e.blk with kind := .far }⟩ else none) H H
theorem HRel.far {ρ : Env} {b : Bd} {base : Nat → Prop} {w : World} {H : List (Nat × HEnt)} {N : Nat → Prop} {G : List E} (h : HRel ρ b base w H N) (hG : allB ρ G) (hb : (∀ k, base k → k < w.heap.size)) : HRel ρ b (· < w.heap.size) w (farH G H) N where
  mem := fun n e hf hg => by
    obtain ⟨x, h1, h2⟩ := restrict_mem (find_mem hf)
    split at h2
    · rename_i hs
      cases h2
      obtain ⟨m1, m2, m3⟩ := h.mem n x h1 (sub_ok hs hG)
      refine ⟨m1, ⟨m2.lt hb, fun i v hi => m2.cell hi⟩, m3⟩
    · cases h2
  inj := fun n m e k hf hk hg hgk ho hok heq => by
    obtain ⟨x, h1, h2⟩ := restrict_mem (find_mem hf)
    split at h2
    · cases h2; cases ho
    · cases h2

/-! Names that a value leads to. -/
mutual
def SV.names : SV → List Nat
  | .ptr n _ => [n]
  | .sl n _ _ _ => [n]
  | .slv n _ _ => [n]
  | .ifc _ v => v.names
  | .fn _ l => SV.namesL l
  | .agg l => SV.namesL l
  | .tup l => SV.namesL l
  | _ => []
def SV.namesL : List SV → List Nat
  | [] => []
  | a :: l => a.names ++ SV.namesL l
end
def reach (H : List (Nat × HEnt)) : Nat → List Nat → List Nat → List Nat
  | 0, _, seen => seen
  | _ + 1, [], seen => seen
  | k + 1, n :: todo, seen =>
    if seen.contains n then reach H k todo seen
    else match find H n with
      | some e => reach H k (SV.namesL e.blk.cells ++ todo) (n :: seen)
      | none => reach H k todo seen
/-- The entries whose number has a property. -/
def selK {α : Type} (p : Nat → Bool) : List (Nat × α) → List (Nat × α)
  | [] => []
  | (n, e) :: r => if p n then (n, e) :: selK p r else selK p r
theorem find_selK {α : Type} (p : Nat → Bool) (L : List (Nat × α)) (n : Nat) : find (selK p L) n = if p n = true then find L n else none := by
  induction L with
  | nil => simp [selK, find]
  | cons a r ih =>
    obtain ⟨m, e⟩ := a
    simp only [selK]
    split
    · rename_i hp
      simp only [find, ih]
      split
      · rename_i hm; subst hm; simp [hp]
      · rfl
    · rename_i hp
      simp only [find, ih]
      by_cases hm : m = n
      · subst hm; simp [hp]
      · simp [hm]
/-- The blocks that are there whatever the guards. -/
def visF (H : List (Nat × HEnt)) : List (Nat × HEnt) := if H.all (fun x => x.2.g.isEmpty) then H else visH H
theorem HRel.visF {ρ : Env} {b : Bd} {base : Nat → Prop} {w : World} {H : List (Nat × HEnt)} {N : Nat → Prop} (h : HRel ρ b base w H N) : HRel ρ b base w (visF H) N := by
  unfold Sx.visF
  split
  · exact h
  · exact h.vis
/-- What a call can come to: the blocks that its arguments lead to. -/
def ledTo (H : List (Nat × HEnt)) (l : List SV) : Nat → Bool := match SV.namesL l with
  | [] => fun _ => false
  | ns => match reach H 1000 ns [] with
    | ks => fun n => ks.any (Nat.beq n)
/-- What is left alone by what sees a part of the blocks. -/
def FrP (ρ : Env) (b : Bd) (base : Nat → Prop) (w : World) (V : List (Nat × HEnt)) (p : Nat → Bool) : Nat → Prop := fun k => base k ∨ (k < w.heap.size ∧ ∀ n e, find V n = some e → p n = true → allB ρ e.g → e.blk.own = true → b.β n ≠ k)
theorem Blk.ok.turn {ρ : Env} {b : Bd} {F G : Nat → Prop} {w : World} {n : Nat} {B : Blk} (h : B.ok ρ b F w n) (h1 : B.own = true → ¬ G (b.β n)) (h2 : B.own = false → G (b.β n)) : B.ok ρ b G w n := by
  unfold Blk.ok at h ⊢
  unfold Blk.own at h1 h2
  split at h
  · rename_i hk
    rw [hk] at h1
    exact ⟨h.1, h1 rfl, h.2.2⟩
  · rename_i hk
    rw [hk] at h1
    exact ⟨h.1, h1 rfl, h.2.2⟩
  · rename_i hk
    rw [hk] at h2
    exact ⟨h2 rfl, h.2⟩
theorem Blk.ok.farBase {ρ : Env} {b : Bd} {F : Nat → Prop} {w : World} {n : Nat} {B : Blk} (h : B.ok ρ b F w n) (ho : B.own = false) : F (b.β n) := by
  unfold Blk.ok at h
  unfold Blk.own at ho
  split at h
  · simp_all
  · simp_all
  · exact h.1
theorem HRel.split {ρ : Env} {b : Bd} {base : Nat → Prop} {w : World} {V : List (Nat × HEnt)} {N : Nat → Prop} (h : HRel ρ b base w V N) (p : Nat → Bool) : HRel ρ b (FrP ρ b base w V p) w (selK p V) N where
  mem := fun n e hf hg => by
    rw [find_selK] at hf
    split at hf
    · rename_i hp
      obtain ⟨m1, m2, m3⟩ := h.mem n e hf hg
      refine ⟨m1, m2.turn (fun ho hF => ?_) (fun ho => .inl (m2.farBase ho)), m3⟩
      rcases hF with hF | hF
      · exact (m2.base ho).1 hF
      · exact hF.2 n e hf hp hg ho rfl
    · cases hf
  inj := fun n m e k hf hk hg hgk ho hok heq => by
    rw [find_selK] at hf hk
    split at hf
    · split at hk
      · exact h.inj n m e k hf hk hg hgk ho hok heq
      · cases hk
    · cases hf
theorem find_app {α : Type} (l m : List (Nat × α)) (n : Nat) : find (l ++ m) n = match find l n with | some x => some x | none => find m n := by
  induction l with
  | nil => rfl
  | cons a l ih =>
    simp only [List.cons_append, find]
    split
    · rfl
    · exact ih
/-- A call's own blocks joined to those that it did not see, or only read. -/
def joinH (H' V : List (Nat × HEnt)) (p : Nat → Bool) : List (Nat × HEnt) :=
  restrict (fun _ e => if e.blk.own then some e else none) H' H' ++ selK (fun n => !(p n) || (match find V n with | some e => !e.blk.own | none => false)) V
/-- Behind a call that saw a part of the blocks. -/
theorem HRel.join {ρ : Env} {b b' : Bd} {base : Nat → Prop} {w w' : World} {V H' : List (Nat × HEnt)} {N M : Nat → Prop} {p : Nat → Bool} (h : HRel ρ b base w V N) (hbase : ∀ k, base k → k < w.heap.size) (hb : Agree b b' N) (hN : ∀ n, N n → M n) (hk : Kept (FrP ρ b base w V p) w w') (h' : HRel ρ b' (FrP ρ b base w V p) w' H' M) :
    HRel ρ b' base w' (joinH H' V p) M := by
  have hfr : ∀ n e, find V n = some e → (p n = false ∨ e.blk.own = false) → allB ρ e.g → FrP ρ b base w V p (b.β n) := by
    intro n e hf hp hg
    obtain ⟨m1, m2, m3⟩ := h.mem n e hf hg
    rcases ho : e.blk.own with _ | _
    · exact .inl (m2.farBase ho)
    · have hp : p n = false := by
        rcases hp with hp | hp
        · exact hp
        · rw [ho] at hp; cases hp
      refine .inr ⟨m2.lt hbase, fun m k hkf hkp hkg hko heq => ?_⟩
      have := h.inj m n k e hkf hf hkg hg hko ho heq
      subst this
      rw [hp] at hkp; cases hkp
  have key : ∀ n e, find (joinH H' V p) n = some e → (find H' n = some e ∧ e.blk.own = true) ∨ (find V n = some e ∧ (p n = false ∨ e.blk.own = false)) := by
    intro n e hf
    unfold joinH at hf
    rw [find_app] at hf
    split at hf
    · rename_i x hx
      cases hf
      obtain ⟨y, h1, h2⟩ := restrict_mem (find_mem hx)
      split at h2
      · rename_i ho; cases h2; exact .inl ⟨h1, ho⟩
      · cases h2
    · rw [find_selK] at hf
      by_cases hp : (!(p n) || (match find V n with | some e => !e.blk.own | none => false)) = true
      · rw [if_pos hp] at hf
        rw [hf] at hp
        exact .inr ⟨hf, by simpa using hp⟩
      · rw [if_neg hp] at hf
        cases hf
  constructor
  · intro n e hf hg
    rcases key n e hf with ⟨h1, h2⟩ | ⟨h1, h2⟩
    · obtain ⟨m1, m2, m3⟩ := h'.mem n e h1 hg
      exact ⟨m1, m2.turn (fun ho hc => (m2.base ho).1 (.inl hc)) (fun ho => by rw [h2] at ho; cases ho), m3⟩
    · obtain ⟨m1, m2, m3⟩ := h.mem n e h1 hg
      exact ⟨hN n m1, m2.keep m1 m3 hb (hk.block _ (hfr n e h1 h2 hg)), SV.okL_mono hN _ m3⟩
  · intro n m e k hf hkf hg hgk ho hok heq
    rcases key n e hf with ⟨h1, h2⟩ | ⟨h1, h2⟩
    · rcases key m k hkf with ⟨k1, k2⟩ | ⟨k1, k2⟩
      · exact h'.inj n m e k h1 k1 hg hgk ho hok heq
      · exfalso
        have e1 := ((h'.mem n e h1 hg).2.1.base ho).1
        rw [heq, (hb m (h.mem m k k1 hgk).1).1] at e1
        exact e1 (hfr m k k1 k2 hgk)
    · rcases key m k hkf with ⟨k1, k2⟩ | ⟨k1, k2⟩
      · exfalso
        have e1 := ((h'.mem m k k1 hgk).2.1.base hok).1
        rw [← heq, (hb n (h.mem n e h1 hg).1).1] at e1
        exact e1 (hfr n e h1 h2 hg)
      · rw [(hb n (h.mem n e h1 hg).1).1, (hb m (h.mem m k k1 hgk).1).1] at heq
        exact h.inj n m e k h1 k1 hg hgk ho hok heq

/-! Which function is called, with what. -/
def callable (P : Program) (k : FuncId) : Bool :=
  match P.funcs[k]? with
  | some fn => !(fn.name == "runtime.NumGoroutine") && fn.body.isSome
  | none => false
theorem run_callFunc {P : Program} {k : FuncId} (h : callable P k = true) (args : Array Value) (w : World) : (callFunc k args).run P w = .ok (.enter k args) w := by
  unfold callable at h
  cases hf : P.funcs[k]? with
  | none => rw [hf] at h; cases h
  | some fn =>
    rw [hf] at h
    simp only [Bool.and_eq_true, Bool.not_eq_true'] at h
    obtain ⟨h1, h2⟩ := h
    have h3 : ¬ fn.body = none := by intro hb; rw [hb] at h2; cases h2
    have h4 : ¬ fn.name = "runtime.NumGoroutine" := by simpa using h1
    simp [callFunc, hf, h3, h4]
def sMethod (P : Program) (t : TypeId) (name : String) : Option FuncId :=
  match P.info? t, P.underlying t with
  | some i, some d =>
    match i.methods.find? (·.name == name) with
    | some m => if m.path.isEmpty then
        match m.func, d with
        | some (f, true), .pointer _ => some f
        | some (_, false), .pointer _ => none
        | some (f, false), _ => some f
        | _, _ => none
      else none
    | none => none
  | _, _ => none
theorem run_method {P : Program} {t : TypeId} {name : String} {f : FuncId} (h : sMethod P t name = some f) (n : Nat) (v : Value) (w : World) : (method (n + 1) t v name).run P w = .ok (f, v) w := by
  unfold sMethod at h
  split at h
  · rename_i i d hi hu
    split at h
    · rename_i m hm
      split at h
      · rename_i hp
        have hp' : m.path.toList = [] := by simpa using hp
        have hty : (typeInfo t).run P w = .ok i w := by simp [typeInfo, hi]
        split at h
        · cases h
          have hf := ‹m.func = some (_, true)›
          simp only [method, Sem.run_bind, hty, Result.andThen, hm, hp', follow, Sem.run_pure, hf, receiverAt, run_underlying hu, Place.get]
        · cases h
        · cases h
          have hf := ‹m.func = some (_, false)›
          obtain ⟨dd, hu2, hne⟩ : ∃ dd, P.underlying t = some dd ∧ ∀ e, dd = .pointer e → False := ⟨_, hu, by assumption⟩
          cases dd <;> first
            | exact (hne _ rfl).elim
            | simp only [method, Sem.run_bind, hty, Result.andThen, hm, hp', follow, Sem.run_pure, hf, receiverAt, run_underlying hu2, Place.get]
        · cases h
      · cases h
    · cases h
  · cases h
def callTarget (P : Program) (G : List E) (S : St) (o : Oper) : Option (FuncId × List SV) :=
  match o.op with
  | .call { callee := .value f, args := args, argTypes := _ } =>
    match ev G S f, evs G S args.toList with
    | some (.fn k caps), some l => if callable P k then some (k, l ++ caps) else none
    | _, _ => none
  | .call { callee := .invoke r name, args := args, argTypes := _ } =>
    match ev G S r, evs G S args.toList with
    | some (.ifc t v), some l => match sMethod P t name with
      | some k => if callable P k then some (k, v :: l) else none
      | none => none
    | _, _ => none
  | _ => none
theorem okL_app {ρ : Env} {N : Nat → Prop} {l m : List SV} (h : SV.okL ρ N l) (k : SV.okL ρ N m) : SV.okL ρ N (l ++ m) :=
  (okL_all _ _ _).2 fun x hx => (List.mem_append.1 hx).elim ((okL_all _ _ _).1 h x) ((okL_all _ _ _).1 k x)
theorem callTarget_ok {P : Program} {G : List E} {S : St} {o : Oper} {k : FuncId} {l : List SV} (hc : callTarget P G S o = some (k, l)) {ρ : Env} {b : Bd} {base : Nat → Prop} {w0 w : World} {a : Act} (h : Rel ρ b base w0 w S a.tmps) (hG : allB ρ G) :
    (execOp a.eval o).run P w = .ok (.enter k (SV.denL ρ b l).toArray) w ∧ SV.okL ρ (· < S.next) l := by
  unfold callTarget at hc
  split at hc
  · rename_i f args ts hop
    split at hc
    · rename_i k' caps l' hf hl
      split at hc
      · rename_i hcb
        cases hc
        have e1 := ev_ok h hG hf
        have e2 := evs_ok h hG hl
        refine ⟨?_, okL_app e2.2 e1.2⟩
        have ha : args.map a.eval = (SV.denL ρ b l').toArray := by apply Array.ext'; simpa using e2.1
        have hd : (SV.denL ρ b l').toArray ++ (SV.denL ρ b caps).toArray = (SV.denL ρ b (l' ++ caps)).toArray := by simp [denL_map]
        have hx : a.eval f = .func (.func k) #[] (SV.denL ρ b caps).toArray := e1.1
        simp only [execOp, hop, resolve, Deferred.ofValue, hx, ha, invoke, Sem.run_bind, Sem.run_pure, Result.andThen, Array.empty_append, hd, run_callFunc hcb]
      · cases hc
    · cases hc
  · rename_i r name args ts hop
    split at hc
    · rename_i t v l' hr hl
      split at hc
      · rename_i k' hm
        split at hc
        · rename_i hcb
          cases hc
          have e1 := ev_ok h hG hr
          have e2 := evs_ok h hG hl
          refine ⟨?_, e1.2, e2.2⟩
          have ha : args.map a.eval = (SV.denL ρ b l').toArray := by apply Array.ext'; simpa using e2.1
          have hx : a.eval r = .iface t (v.den ρ b) := e1.1
          obtain ⟨n, hn⟩ : ∃ n, P.types.size + Made.depth = n + 1 := ⟨P.types.size + Made.depth - 1, by unfold Made.depth; omega⟩
          have hmr := run_method hm n (v.den ρ b) w
          simp [execOp, hop, resolve, hx, ha, invoke, callMethod, hn, hmr, run_callFunc hcb, SV.denL]
        · cases hc
      · cases hc
    · cases hc
  · cases hc
end Go.Proofs.Ytdfpenjhpemokaa.Sx
