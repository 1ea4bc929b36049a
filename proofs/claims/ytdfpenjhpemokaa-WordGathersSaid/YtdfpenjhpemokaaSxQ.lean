/-
  A verified symbolic executor, part 14: one operation behind its guard; calls.
-/
import Derived.Test.YtdfpenjhpemokaaSxMN
import Derived.Orders
set_option linter.unusedVariables false
set_option linter.unusedSimpArgs false
namespace Go.Proofs.Ytdfpenjhpemokaa.Sx
open Go.RowKit (Below)

structure CR where
  v : SV
  heap : List (Nat × HEnt)
  next : Nat
  deriving Inhabited
abbrev Handler := List E → FuncId → List SV → List (Nat × HEnt) → Nat → Option (T CR × List VC)
def HOK (P : Program) (ρ : Env) (h : Handler) : Prop :=
  ∀ pc f args H nx r vs, h pc f args H nx = some (r, vs) → allB ρ pc → allV ρ vs →
    ∀ b base w0 w, HRel ρ b base w H (· < nx) → Mem ρ base w0 → Kept base w0 w → (∀ k, base k → k < w.heap.size) → SV.okL ρ (· < nx) args →
      Calls P f (SV.denL ρ b args).toArray w fun e w' => ∃ b', e = .returned ((r.at ρ).v.den ρ b') ∧ Agree b b' (· < nx) ∧ HRel ρ b' base w' (r.at ρ).heap (· < (r.at ρ).next) ∧ (r.at ρ).v.ok ρ (· < (r.at ρ).next) ∧ Kept base w0 w' ∧ (∀ k, base k → k < w'.heap.size) ∧ nx ≤ (r.at ρ).next

def restrict {α : Type} (f : Nat → α → Option α) (L : List (Nat × α)) : List (Nat × α) → List (Nat × α)
  | [] => []
  | (n, _) :: r => match (find L n).bind (f n) with
    | some e => (n, e) :: restrict f L r
    | none => restrict f L r
theorem restrict_mem {α : Type} {f : Nat → α → Option α} {L : List (Nat × α)} : ∀ {l : List (Nat × α)} {n : Nat} {e : α}, (n, e) ∈ restrict f L l → ∃ x, find L n = some x ∧ f n x = some e := by
  intro l
  induction l with
  | nil => intro n e h; cases h
  | cons a l ih =>
    obtain ⟨m, y⟩ := a
    intro n e h
    simp only [restrict] at h
    split at h
    · rename_i x hx
      cases h with
      | head =>
        rw [Option.bind_eq_some_iff] at hx
        exact hx
      | tail _ h => exact ih h
    · exact ih h
theorem HRel.partF {ρ : Env} {b : Bd} {base : Nat → Prop} {w : World} {H H' : List (Nat × HEnt)} {N : Nat → Prop} (h : HRel ρ b base w H N) (hp : ∀ n e, find H' n = some e → allB ρ e.g → ∃ x, find H n = some x ∧ x.blk = e.blk ∧ allB ρ x.g) : HRel ρ b base w H' N where
  mem := fun n e hf hg => by
    obtain ⟨x, h1, h2, h3⟩ := hp n e hf hg
    rw [← h2]
    exact h.mem n x h1 h3
  inj := fun n m e k hf hk hg hgk ho hok heq => by
    obtain ⟨x, h1, h2, h3⟩ := hp n e hf hg
    obtain ⟨y, k1, k2, k3⟩ := hp m k hk hgk
    exact h.inj n m x y h1 k1 h3 k3 (by rw [h2]; exact ho) (by rw [k2]; exact hok) heq
theorem HRel.part {ρ : Env} {b : Bd} {base : Nat → Prop} {w : World} {H H' : List (Nat × HEnt)} {N : Nat → Prop} (h : HRel ρ b base w H N) (hp : ∀ n e, (n, e) ∈ H' → ∃ x, find H n = some x ∧ x.blk = e.blk ∧ (allB ρ e.g → allB ρ x.g)) : HRel ρ b base w H' N :=
  h.partF fun n e hf hg => by
    obtain ⟨x, h1, h2, h3⟩ := hp n e (find_mem hf)
    exact ⟨x, h1, h2, h3 hg⟩
def visH (H : List (Nat × HEnt)) : List (Nat × HEnt) := restrict (fun _ e => if e.g.isEmpty then some e else none) H H
theorem HRel.vis {ρ : Env} {b : Bd} {base : Nat → Prop} {w : World} {H : List (Nat × HEnt)} {N : Nat → Prop} (h : HRel ρ b base w H N) : HRel ρ b base w (visH H) N :=
  h.part fun n e hm => by
    obtain ⟨x, h1, h2⟩ := restrict_mem hm
    split at h2
    · cases h2; exact ⟨_, h1, rfl, id⟩
    · cases h2
def farH (G : List E) (H : List (Nat × HEnt)) : List (Nat × HEnt) := restrict (fun _ e => if sub e.g G then some ⟨[], { e.blk with kind := .far }⟩ else none) H H
theorem HRel.far {ρ : Env} {b : Bd} {base : Nat → Prop} {w : World} {H : List (Nat × HEnt)} {N : Nat → Prop} {G : List E} (h : HRel ρ b base w H N) (hG : allB ρ G) (hb : (∀ k, base k → k < w.heap.size)) : HRel ρ b (· < w.heap.size) w (farH G H) N where
  mem := fun n e hf hg => by
    obtain ⟨x, h1, h2⟩ := restrict_mem (find_mem hf)
    split at h2
    · rename_i hs
      cases h2
      obtain ⟨m1, m2, m3⟩ := h.mem n x h1 (sub_ok hs hG)
      refine ⟨m1, ⟨m2.lt hb, fun i v hi => m2.cell hi⟩, m3⟩
    · cases h2
  inj := fun n m e k hf hk hg hgk ho hok heq => by
    obtain ⟨x, h1, h2⟩ := restrict_mem (find_mem hf)
    split at h2
    · cases h2; cases ho
    · cases h2

mutual
def SV.names : SV → List Nat
  | .ptr n _ => [n]
  | .sl n _ _ _ => [n]
  | .slv n _ _ => [n]
  | .ifc _ v => v.names
  | .fn _ l => SV.namesL l
  | .agg l => SV.namesL l
  | .tup l => SV.namesL l
  | _ => []
def SV.namesL : List SV → List Nat
  | [] => []
  | a :: l => a.names ++ SV.namesL l
end
def reach (H : List (Nat × HEnt)) : Nat → List Nat → List Nat → List Nat
  | 0, _, seen => seen
  | _ + 1, [], seen => seen
  | k + 1, n :: todo, seen =>
    if seen.contains n then reach H k todo seen
    else match find H n with
      | some e => reach H k (SV.namesL e.blk.cells ++ todo) (n :: seen)
      | none => reach H k todo seen
def selK {α : Type} (p : Nat → Bool) : List (Nat × α) → List (Nat × α)
  | [] => []
  | (n, e) :: r => if p n then (n, e) :: selK p r else selK p r
theorem find_selK {α : Type} (p : Nat → Bool) (L : List (Nat × α)) (n : Nat) : find (selK p L) n = if p n = true then find L n else none := by
  induction L with
  | nil => simp [selK, find]
  | cons a r ih =>
    obtain ⟨m, e⟩ := a
    simp only [selK]
    split
    · rename_i hp
      simp only [find, ih]
      split
      · rename_i hm; subst hm; simp [hp]
      · rfl
    · rename_i hp
      simp only [find, ih]
      by_cases hm : m = n
      · subst hm; simp [hp]
      · simp [hm]
def visF (H : List (Nat × HEnt)) : List (Nat × HEnt) := if H.all (fun x => x.2.g.isEmpty) then H else visH H
theorem HRel.visF {ρ : Env} {b : Bd} {base : Nat → Prop} {w : World} {H : List (Nat × HEnt)} {N : Nat → Prop} (h : HRel ρ b base w H N) : HRel ρ b base w (visF H) N := by
  unfold Sx.visF
  split
  · exact h
  · exact h.vis
def ledTo (H : List (Nat × HEnt)) (l : List SV) : Nat → Bool := match SV.namesL l with
  | [] => fun _ => false
  | ns => match reach H 1000 ns [] with
    | ks => fun n => ks.any (Nat.beq n)
def FrP (ρ : Env) (b : Bd) (base : Nat → Prop) (w : World) (V : List (Nat × HEnt)) (p : Nat → Bool) : Nat → Prop := fun k => base k ∨ (k < w.heap.size ∧ ∀ n e, find V n = some e → p n = true → allB ρ e.g → e.blk.own = true → b.β n ≠ k)
theorem Blk.ok.turn {ρ : Env} {b : Bd} {F G : Nat → Prop} {w : World} {n : Nat} {B : Blk} (h : B.ok ρ b F w n) (h1 : B.own = true → ¬ G (b.β n)) (h2 : B.own = false → G (b.β n)) : B.ok ρ b G w n := by
  unfold Blk.ok at h ⊢
  unfold Blk.own at h1 h2
  split at h
  · rename_i hk
    rw [hk] at h1
    exact ⟨h.1, h1 rfl, h.2.2⟩
  · rename_i hk
    rw [hk] at h1
    exact ⟨h.1, h1 rfl, h.2.2⟩
  · rename_i hk
    rw [hk] at h2
    exact ⟨h2 rfl, h.2⟩
theorem Blk.ok.farBase {ρ : Env} {b : Bd} {F : Nat → Prop} {w : World} {n : Nat} {B : Blk} (h : B.ok ρ b F w n) (ho : B.own = false) : F (b.β n) := by
  unfold Blk.ok at h
  unfold Blk.own at ho
  split at h
  · simp_all
  · simp_all
  · exact h.1
theorem HRel.split {ρ : Env} {b : Bd} {base : Nat → Prop} {w : World} {V : List (Nat × HEnt)} {N : Nat → Prop} (h : HRel ρ b base w V N) (p : Nat → Bool) : HRel ρ b (FrP ρ b base w V p) w (selK p V) N where
  mem := fun n e hf hg => by
    rw [find_selK] at hf
    split at hf
    · rename_i hp
      obtain ⟨m1, m2, m3⟩ := h.mem n e hf hg
      refine ⟨m1, m2.turn (fun ho hF => ?_) (fun ho => .inl (m2.farBase ho)), m3⟩
      rcases hF with hF | hF
      · exact (m2.base ho).1 hF
      · exact hF.2 n e hf hp hg ho rfl
    · cases hf
  inj := fun n m e k hf hk hg hgk ho hok heq => by
    rw [find_selK] at hf hk
    split at hf
    · split at hk
      · exact h.inj n m e k hf hk hg hgk ho hok heq
      · cases hk
    · cases hf
theorem find_app {α : Type} (l m : List (Nat × α)) (n : Nat) : find (l ++ m) n = match find l n with | some x => some x | none => find m n := by
  induction l with
  | nil => rfl
  | cons a l ih =>
    simp only [List.cons_append, find]
    split
    · rfl
    · exact ih
def joinH (H' V : List (Nat × HEnt)) (p : Nat → Bool) : List (Nat × HEnt) :=
  restrict (fun _ e => if e.blk.own then some e else none) H' H' ++ selK (fun n => !(p n) || (match find V n with | some e => !e.blk.own | none => false)) V
theorem HRel.join {ρ : Env} {b b' : Bd} {base : Nat → Prop} {w w' : World} {V H' : List (Nat × HEnt)} {N M : Nat → Prop} {p : Nat → Bool} (h : HRel ρ b base w V N) (hbase : ∀ k, base k → k < w.heap.size) (hb : Agree b b' N) (hN : ∀ n, N n → M n) (hk : Kept (FrP ρ b base w V p) w w') (h' : HRel ρ b' (FrP ρ b base w V p) w' H' M) :
    HRel ρ b' base w' (joinH H' V p) M := by
  have hfr : ∀ n e, find V n = some e → (p n = false ∨ e.blk.own = false) → allB ρ e.g → FrP ρ b base w V p (b.β n) := by
    intro n e hf hp hg
    obtain ⟨m1, m2, m3⟩ := h.mem n e hf hg
    rcases ho : e.blk.own with _ | _
    · exact .inl (m2.farBase ho)
    · have hp : p n = false := by
        rcases hp with hp | hp
        · exact hp
        · rw [ho] at hp; cases hp
      refine .inr ⟨m2.lt hbase, fun m k hkf hkp hkg hko heq => ?_⟩
      have := h.inj m n k e hkf hf hkg hg hko ho heq
      subst this
      rw [hp] at hkp; cases hkp
  have key : ∀ n e, find (joinH H' V p) n = some e → (find H' n = some e ∧ e.blk.own = true) ∨ (find V n = some e ∧ (p n = false ∨ e.blk.own = false)) := by
    intro n e hf
    unfold joinH at hf
    rw [find_app] at hf
    split at hf
    · rename_i x hx
      cases hf
      obtain ⟨y, h1, h2⟩ := restrict_mem (find_mem hx)
      split at h2
      · rename_i ho; cases h2; exact .inl ⟨h1, ho⟩
      · cases h2
    · rw [find_selK] at hf
      by_cases hp : (!(p n) || (match find V n with | some e => !e.blk.own | none => false)) = true
      · rw [if_pos hp] at hf
        rw [hf] at hp
        exact .inr ⟨hf, by simpa using hp⟩
      · rw [if_neg hp] at hf
        cases hf
  constructor
  · intro n e hf hg
    rcases key n e hf with ⟨h1, h2⟩ | ⟨h1, h2⟩
    · obtain ⟨m1, m2, m3⟩ := h'.mem n e h1 hg
      exact ⟨m1, m2.turn (fun ho hc => (m2.base ho).1 (.inl hc)) (fun ho => by rw [h2] at ho; cases ho), m3⟩
    · obtain ⟨m1, m2, m3⟩ := h.mem n e h1 hg
      exact ⟨hN n m1, m2.keep m1 m3 hb (hk.block _ (hfr n e h1 h2 hg)), SV.okL_mono hN _ m3⟩
  · intro n m e k hf hkf hg hgk ho hok heq
    rcases key n e hf with ⟨h1, h2⟩ | ⟨h1, h2⟩
    · rcases key m k hkf with ⟨k1, k2⟩ | ⟨k1, k2⟩
      · exact h'.inj n m e k h1 k1 hg hgk ho hok heq
      · exfalso
        have e1 := ((h'.mem n e h1 hg).2.1.base ho).1
        rw [heq, (hb m (h.mem m k k1 hgk).1).1] at e1
        exact e1 (hfr m k k1 k2 hgk)
    · rcases key m k hkf with ⟨k1, k2⟩ | ⟨k1, k2⟩
      · exfalso
        have e1 := ((h'.mem m k k1 hgk).2.1.base hok).1
        rw [← heq, (hb n (h.mem n e h1 hg).1).1] at e1
        exact e1 (hfr n e h1 h2 hg)
      · rw [(hb n (h.mem n e h1 hg).1).1, (hb m (h.mem m k k1 hgk).1).1] at heq
        exact h.inj n m e k h1 k1 hg hgk ho hok heq

def callable (P : Program) (k : FuncId) : Bool :=
  match P.funcs[k]? with
  | some fn => !(fn.name == "runtime.NumGoroutine") && fn.body.isSome
  | none => false
theorem run_callFunc {P : Program} {k : FuncId} (h : callable P k = true) (args : Array Value) (w : World) : (callFunc k args).run P w = .ok (.enter k args) w := by
  unfold callable at h
  cases hf : P.funcs[k]? with
  | none => rw [hf] at h; cases h
  | some fn =>
    rw [hf] at h
    simp only [Bool.and_eq_true, Bool.not_eq_true'] at h
    obtain ⟨h1, h2⟩ := h
    have h3 : ¬ fn.body = none := by intro hb; rw [hb] at h2; cases h2
    have h4 : ¬ fn.name = "runtime.NumGoroutine" := by simpa using h1
    simp [callFunc, hf, h3, h4]
def sMethod (P : Program) (t : TypeId) (name : String) : Option FuncId :=
  match P.info? t, P.underlying t with
  | some i, some d =>
    match i.methods.find? (·.name == name) with
    | some m => if m.path.isEmpty then
        match m.func, d with
        | some (f, true), .pointer _ => some f
        | some (_, false), .pointer _ => none
        | some (f, false), _ => some f
        | _, _ => none
      else none
    | none => none
  | _, _ => none
theorem run_method {P : Program} {t : TypeId} {name : String} {f : FuncId} (h : sMethod P t name = some f) (n : Nat) (v : Value) (w : World) : (method (n + 1) t v name).run P w = .ok (f, v) w := by
  unfold sMethod at h
  split at h
  · rename_i i d hi hu
    split at h
    · rename_i m hm
      split at h
      · rename_i hp
        have hp' : m.path.toList = [] := by simpa using hp
        have hty : (typeInfo t).run P w = .ok i w := by simp [typeInfo, hi]
        split at h
        · cases h
          have hf := ‹m.func = some (_, true)›
          simp only [method, Sem.run_bind, hty, Result.andThen, hm, hp', follow, Sem.run_pure, hf, receiverAt, run_underlying hu, Place.get]
        · cases h
        · cases h
          have hf := ‹m.func = some (_, false)›
          obtain ⟨dd, hu2, hne⟩ : ∃ dd, P.underlying t = some dd ∧ ∀ e, dd = .pointer e → False := ⟨_, hu, by assumption⟩
          cases dd <;> first
            | exact (hne _ rfl).elim
            | simp only [method, Sem.run_bind, hty, Result.andThen, hm, hp', follow, Sem.run_pure, hf, receiverAt, run_underlying hu2, Place.get]
        · cases h
      · cases h
    · cases h
  · cases h
def callTarget (P : Program) (G : List E) (S : St) (o : Oper) : Option (FuncId × List SV) :=
  match o.op with
  | .call { callee := .value f, args := args, argTypes := _ } =>
    match ev G S f, evs G S args.toList with
    | some (.fn k caps), some l => if callable P k then some (k, l ++ caps) else none
    | _, _ => none
  | .call { callee := .invoke r name, args := args, argTypes := _ } =>
    match ev G S r, evs G S args.toList with
    | some (.ifc t v), some l => match sMethod P t name with
      | some k => if callable P k then some (k, v :: l) else none
      | none => none
    | _, _ => none
  | _ => none
theorem okL_app {ρ : Env} {N : Nat → Prop} {l m : List SV} (h : SV.okL ρ N l) (k : SV.okL ρ N m) : SV.okL ρ N (l ++ m) :=
  (okL_all _ _ _).2 fun x hx => (List.mem_append.1 hx).elim ((okL_all _ _ _).1 h x) ((okL_all _ _ _).1 k x)
theorem callTarget_ok {P : Program} {G : List E} {S : St} {o : Oper} {k : FuncId} {l : List SV} (hc : callTarget P G S o = some (k, l)) {ρ : Env} {b : Bd} {base : Nat → Prop} {w0 w : World} {a : Act} (h : Rel ρ b base w0 w S a.tmps) (hG : allB ρ G) :
    (execOp a.eval o).run P w = .ok (.enter k (SV.denL ρ b l).toArray) w ∧ SV.okL ρ (· < S.next) l := by
  unfold callTarget at hc
  split at hc
  · rename_i f args ts hop
    split at hc
    · rename_i k' caps l' hf hl
      split at hc
      · rename_i hcb
        cases hc
        have e1 := ev_ok h hG hf
        have e2 := evs_ok h hG hl
        refine ⟨?_, okL_app e2.2 e1.2⟩
        have ha : args.map a.eval = (SV.denL ρ b l').toArray := by apply Array.ext'; simpa using e2.1
        have hd : (SV.denL ρ b l').toArray ++ (SV.denL ρ b caps).toArray = (SV.denL ρ b (l' ++ caps)).toArray := by simp [denL_map]
        have hx : a.eval f = .func (.func k) #[] (SV.denL ρ b caps).toArray := e1.1
        simp only [execOp, hop, resolve, Deferred.ofValue, hx, ha, invoke, Sem.run_bind, Sem.run_pure, Result.andThen, Array.empty_append, hd, run_callFunc hcb]
      · cases hc
    · cases hc
  · rename_i r name args ts hop
    split at hc
    · rename_i t v l' hr hl
      split at hc
      · rename_i k' hm
        split at hc
        · rename_i hcb
          cases hc
          have e1 := ev_ok h hG hr
          have e2 := evs_ok h hG hl
          refine ⟨?_, e1.2, e2.2⟩
          have ha : args.map a.eval = (SV.denL ρ b l').toArray := by apply Array.ext'; simpa using e2.1
          have hx : a.eval r = .iface t (v.den ρ b) := e1.1
          obtain ⟨n, hn⟩ : ∃ n, P.types.size + Made.depth = n + 1 := ⟨P.types.size + Made.depth - 1, by unfold Made.depth; omega⟩
          have hmr := run_method hm n (v.den ρ b) w
          simp [execOp, hop, resolve, hx, ha, invoke, callMethod, hn, hmr, run_callFunc hcb, SV.denL]
        · cases hc
      · cases hc
    · cases hc
  · cases hc
end Go.Proofs.Ytdfpenjhpemokaa.Sx
/-
  A verified symbolic executor, part 15: one operation of a region.
-/
namespace Go.Proofs.Ytdfpenjhpemokaa.Sx
open Go.RowKit (Below)

def guardOf (ops : Array Oper) (S : St) (o : Oper) : Option (Option (List E)) :=
  match o.guard with
  | none => some (some [])
  | some (j, want) =>
    match ((ops[j]?).bind (·.dst)).bind (find S.tmps) with
    | some ⟨g, .bool e⟩ =>
      match e with
      | .bc b => if b = want then some (some g) else some none
      | e => some (some ((if want then e else mkNot e) :: g))
    | _ => none
theorem guardOf_ok {ops : Array Oper} {S : St} {o : Oper} {ρ : Env} {b : Bd} {base : Nat → Prop} {w0 w : World} {tm : Array Value} (h : Rel ρ b base w0 w S tm) {r : Option (List E)} (hg : guardOf ops S o = some r) :
    match r with
    | some G => Region.wanted o (yielded ops tm) = true ↔ allB ρ G
    | none => Region.wanted o (yielded ops tm) = false := by
  unfold guardOf at hg
  unfold Region.wanted
  split at hg
  · rename_i hn
    cases hg
    simp [hn, allB_nil]
  · rename_i j want hn
    rw [hn]
    split at hg
    · rename_i g e hf
      rw [Option.bind_eq_some_iff] at hf
      obtain ⟨d, hd, hf⟩ := hf
      obtain ⟨h1, h2⟩ := h.tmps d _ hf
      have hy1 : allB ρ g → yielded ops tm j = some (e.b ρ) := by
        intro hg'
        unfold yielded
        rw [hd]
        simp only [Option.bind_some, (h1 hg').1, SV.den]
      have hy2 : ¬ allB ρ g → yielded ops tm j = none := by
        intro hg'
        unfold yielded
        rw [hd]
        simp only [Option.bind_some, h2 hg', undef]
      split at hg
      · rename_i b'
        split at hg
        · rename_i hb
          cases hg
          by_cases hg' : allB ρ g
          · simp [hy1 hg', hg', E.b, hb]
          · simp [hy2 hg', hg']
        · rename_i hb
          cases hg
          by_cases hg' : allB ρ g
          · simp [hy1 hg', E.b, hb]
          · simp [hy2 hg']
      · cases hg
        have key : (if want = true then e else mkNot e).b ρ = true ↔ e.b ρ = want := by
          cases want <;> simp [mkNot_b]
        by_cases hg' : allB ρ g
        · simp only [hy1 hg', beq_iff_eq, Option.some.injEq]
          rw [← key]
          exact ⟨fun hk => allB_cons hk hg', fun hk => hk _ (.head _)⟩
        · simp only [hy2 hg']
          constructor
          · intro hc; simp at hc
          · intro hk; exact absurd (fun x hx => hk x (.tail _ hx)) hg'
    · cases hg

def St.setT (S : St) (dst : Option Tmp) (e : Ent) : St :=
  match dst with
  | some d => { S with tmps := push S.tmps d e }
  | none => S
theorem Rel.put {ρ : Env} {b : Bd} {base : Nat → Prop} {w0 w : World} {S : St} {a : Act} (h : Rel ρ b base w0 w S a.tmps) {dst : Option Tmp} (hd : ∀ d, dst = some d → d < S.nt) {e : Ent} {val : Value} (h1 : allB ρ e.g → val = e.sv.den ρ b ∧ e.sv.ok ρ (· < S.next)) (h2 : ¬ allB ρ e.g → val = undef) :
    Rel ρ b base w0 w (S.setT dst e) (a.put dst val).tmps := by
  cases dst with
  | none => exact h
  | some d =>
    have hlt := hd d rfl
    refine ⟨h.heap, fun i x hf => ?_, h.below, h.base, by simp [Act.put]; exact h.nt, h.kept⟩
    simp only [St.setT] at hf
    rw [find_push] at hf
    simp only [Act.put]
    split at hf
    · rename_i hi
      subst hi
      cases hf
      have hs : d < a.tmps.size := by rw [h.nt]; exact hlt
      refine ⟨fun hg => ?_, fun hg => ?_⟩
      · obtain ⟨e1, e2⟩ := h1 hg
        exact ⟨by rw [Array.getElem?_setIfInBounds_self, if_pos hs, e1], e2⟩
      · rw [Array.getElem?_setIfInBounds_self, if_pos hs, h2 hg]
    · rename_i hi
      have := h.tmps i x hf
      unfold Ent.at at this ⊢
      rw [Array.getElem?_setIfInBounds_ne hi]
      exact this
def dstOk (S : St) (o : Oper) : Bool :=
  match o.dst with
  | some d => decide (d < S.nt)
  | none => true
theorem dstOk_ok {S : St} {o : Oper} (h : dstOk S o = true) : ∀ d, o.dst = some d → d < S.nt := by
  intro d hd
  unfold dstOk at h
  rw [hd] at h
  simpa using h

def St.newG (S : St) (G : List E) (cells : List SV) (elem : TypeId) : St := { S with heap := push S.heap S.next ⟨G, ⟨cells, elem, .full⟩⟩, next := S.next + 1 }
def newEnts (G : List E) (nx : Nat) (H : List (Nat × HEnt)) : List (Nat × HEnt) := restrict (fun n e => if decide (nx ≤ n) && e.g.isEmpty && e.blk.own then some ⟨G, e.blk⟩ else none) H H
def callFr (h : Handler) (pc : List E) (S : St) (dst : Option Tmp) (k : FuncId) (l : List SV) (V : List (Nat × HEnt)) : Option (T St × List VC) :=
  match h pc k l (selK (ledTo V l) V) S.next with
  | some (r, vs) => some (r.map fun c => ({ S with heap := joinH c.heap V (ledTo V l), next := c.next } : St).setT dst ⟨[], c.v⟩, vs)
  | none => none
def E.impl : E → E → Bool
  | .bin .and a b, e => a.impl e || b.impl e || (E.bin .and a b).same e
  | d, e => d.same e
theorem E.impl_ok {ρ : Env} : ∀ {d e : E}, d.impl e = true → d.b ρ = true → e.b ρ = true := by
  intro d
  induction d with
  | bin o a b iha ihb =>
    intro e h hd
    cases o with
    | and =>
      simp only [E.impl, Bool.or_eq_true] at h
      have hd' := hd
      simp only [E.b, Bool.and_eq_true] at hd'
      rcases h with (h | h) | h
      · exact iha h hd'.1
      · exact ihb h hd'.2
      · rw [← E.same_eq h]; exact hd
    | _ => simp only [E.impl] at h; rw [← E.same_eq h]; exact hd
  | _ => intro e h hd; simp only [E.impl] at h; rw [← E.same_eq h]; exact hd
def opI (P : Program) (pc G : List E) (S : St) (o : Oper) : Option (SV × List VC) :=
  match o.op with
  | .indexAddr t x i => match ev G S x, ev G S i, P.underlying t with
    | some (.osl k sh len), some (.int _ j), some (.slice e) =>
      match sh, sizeT P e with
      | c :: l, some n => if n = l.length + 1 then
          some (.optr k (c :: l) j 0, (if G.any (fun x => x.impl (mkLt j.e len.e)) || pc.any (fun x => x.impl (mkLt j.e len.e)) then [] else [⟨G ++ pc, mkLt j.e len.e⟩]) ++ (if 0 ≤ j.lo then [] else [⟨G ++ pc, .bin .le (.c 0) j.e⟩]))
        else none
      | _, _ => none
    | _, _, _ => none
  | _ => none
theorem opI_ok {P : Program} {pc G : List E} {S : St} {o : Oper} {v : SV} {vs : List VC} (ho : opI P pc G S o = some (v, vs)) {ρ : Env} {b : Bd} {base : Nat → Prop} {w0 w : World} {a : Act} (h : Rel ρ b base w0 w S a.tmps) (hG : allB ρ G) (hpc : allB ρ pc) (hv : allV ρ vs) :
    (execOp a.eval o).run P w = .ok (.value (v.den ρ b)) w ∧ v.ok ρ (· < S.next) := by
  unfold opI at ho
  split at ho
  · rename_i t x i hop
    split at ho
    · rename_i k sh len kd j e hx hi hu
      split at ho
      · rename_i c l n hs
        split at ho
        · rename_i hn
          cases ho
          rw [allV_app] at hv
          obtain ⟨e1, f1, f2, f3, _⟩ := ev_ok h hG hx
          obtain ⟨e2, f4⟩ := ev_ok h hG hi
          have hA : allB ρ (G ++ pc) := fun x hx => (List.mem_append.1 hx).elim (hG x) (hpc x)
          have hlt : j.e.i ρ < len.e.i ρ := by
            have key : (mkLt j.e len.e).b ρ = true := by
              have := hv.1
              split at this
              · rename_i hc
                rw [Bool.or_eq_true, List.any_eq_true, List.any_eq_true] at hc
                rcases hc with ⟨y, hy, hyy⟩ | ⟨y, hy, hyy⟩
                · exact E.impl_ok hyy (hG y hy)
                · exact E.impl_ok hyy (hpc y hy)
              · exact this _ (.head _) hA
            rw [mkLt_b] at key
            simpa using key
          have h0 : 0 ≤ j.e.i ρ := by
            have := hv.2
            split at this
            · rename_i hc; have := f4.1; omega
            · have := this _ (.head _) hA
              simp only [E.b, E.i] at this
              exact of_decide_eq_true this
          have hel := f3 (j.e.i ρ).toNat (by omega)
          obtain ⟨hmv, _⟩ := hel 0 c rfl
          obtain ⟨p, off, g1, _, _⟩ := h.kept.1 k _ _ hmv
          have hl2 : j.e.i ρ < ((len.e.i ρ).toNat : Int) := by omega
          refine ⟨?_, f4, h0, hel, p, off, g1⟩
          simp only [execOp, hop, e1, e2, SV.den, g1]
          simp [Instr.indexAt, run_underlying hu, asIntOf, run_sizeOf hs, h0, hl2, hn]
          unfold Addr.add
          split <;> simp_all
        · cases ho
      · cases ho
    · cases ho
  · cases ho
def splitX (f : Int → Option SV) (j : E) : Nat → Int → Option (T SV)
  | 0, k => (f k).map .leaf
  | n + 1, k => match f k, splitX f j n (k + 1) with
    | some v, some t => some (.node (mkEq j (.c k)) (.leaf v) t)
    | _, _ => none
theorem splitX_ok {f : Int → Option SV} {j : E} {ρ : Env} : ∀ {n : Nat} {k : Int} {t : T SV}, splitX f j n k = some t → k ≤ j.i ρ → j.i ρ ≤ k + n → f (j.i ρ) = some (t.at ρ) := by
  intro n
  induction n with
  | zero =>
    intro k t h h1 h2
    have e : j.i ρ = k := by omega
    simp only [splitX, Option.map_eq_some_iff] at h
    obtain ⟨v, hv, rfl⟩ := h
    rw [e]; exact hv
  | succ n ih =>
    intro k t h h1 h2
    simp only [splitX] at h
    split at h
    · rename_i v u hv hu
      cases h
      simp only [T.at, mkEq_b, E.i, decide_eq_true_eq]
      split
      · rename_i e; rw [of_decide_eq_true e]; exact hv
      · rename_i e
        have : ¬ j.i ρ = k := fun hh => e (decide_eq_true hh)
        exact ih hu (by omega) (by omega)
    · cases h
def opJ (P : Program) (G : List E) (S : St) (o : Oper) : Option (T SV) :=
  match o.op with
  | .indexAddr t x i => match ev G S x, ev G S i with
    | some u, some (.int kd j) => if decide (j.lo < j.hi) && decide (j.hi ≤ j.lo + 15) then splitX (fun k => sIndexAddr P t u (.int kd ⟨.c k, k, k⟩)) j.e (j.hi - j.lo).toNat j.lo else none
    | _, _ => none
  | .index t x i => match ev G S x, ev G S i with
    | some u, some (.int kd j) => if decide (j.lo < j.hi) && decide (j.hi ≤ j.lo + 15) then splitX (fun k => sIndex P t u (.int kd ⟨.c k, k, k⟩)) j.e (j.hi - j.lo).toNat j.lo else none
    | _, _ => none
  | _ => none
theorem opJ_ok {P : Program} {G : List E} {S : St} {o : Oper} {t : T SV} (ho : opJ P G S o = some t) {ρ : Env} {b : Bd} {base : Nat → Prop} {w0 w : World} {a : Act} (h : Rel ρ b base w0 w S a.tmps) (hG : allB ρ G) :
    (execOp a.eval o).run P w = .ok (.value ((t.at ρ).den ρ b)) w ∧ (t.at ρ).ok ρ (· < S.next) := by
  unfold opJ at ho
  split at ho
  · rename_i t' x i hop
    split at ho
    · rename_i u kd j hu hi
      split at ho
      · rename_i hr
        simp only [Bool.and_eq_true, decide_eq_true_eq] at hr
        have e1 := ev_ok h hG hu
        have e2 := ev_ok h hG hi
        obtain ⟨j1, j2⟩ := e2.2
        have hs := splitX_ok (ρ := ρ) ho j1 (by omega)
        have := sIndexAddr_ok hs (b := b) (ρ := ρ) e1.2 (show (SV.int kd ⟨.c (j.e.i ρ), j.e.i ρ, j.e.i ρ⟩).ok ρ (· < S.next) from ⟨Int.le_refl _, Int.le_refl _⟩) w
        simp only [SV.den, E.i] at this e2
        exact ⟨by simp [execOp, hop, e1.1, e2.1, this.1], this.2⟩
      · cases ho
    · cases ho
  · rename_i t' x i hop
    split at ho
    · rename_i u kd j hu hi
      split at ho
      · rename_i hr
        simp only [Bool.and_eq_true, decide_eq_true_eq] at hr
        have e1 := ev_ok h hG hu
        have e2 := ev_ok h hG hi
        obtain ⟨j1, j2⟩ := e2.2
        have hs := splitX_ok (ρ := ρ) ho j1 (by omega)
        have := sIndex_ok hs (b := b) (ρ := ρ) e1.2 (show (SV.int kd ⟨.c (j.e.i ρ), j.e.i ρ, j.e.i ρ⟩).ok ρ (· < S.next) from ⟨Int.le_refl _, Int.le_refl _⟩) w
        simp only [SV.den, E.i] at this e2
        exact ⟨by simp [execOp, hop, e1.1, e2.1, this.1], this.2⟩
      · cases ho
    · cases ho
  · cases ho
def stepOp (P : Program) (et : TypeId) (h : Handler) (pc : List E) (ops : Array Oper) (S : St) (o : Oper) : Option (T St × List VC) :=
  if dstOk S o then
    match guardOf ops S o with
    | none => none
    | some none => some (.leaf (S.setT o.dst ⟨[], .con undef⟩), [])
    | some (some G) =>
      match opU P et G S o with
      | some v => v.nmS bigK fun v vs => some (.leaf (S.setT o.dst ⟨G, v⟩), vs)
      | none =>
        match opN P G S o with
        | some (v, cells, elem) => some (.leaf ((S.newG G cells elem).setT o.dst ⟨G, v⟩), [])
        | none => match opI P pc G S o with
         | some (v, vs) => some (.leaf (S.setT o.dst ⟨G, v⟩), vs)
         | none => match opJ P G S o with
          | some t => some (t.map fun v => S.setT o.dst ⟨G, v⟩, [])
          | none =>
          if G.isEmpty then
            match opW P [] S o with
            | some (v, S') => if S'.nt = S.nt then some (.leaf (S'.setT o.dst ⟨[], v⟩), []) else none
            | none => match callTarget P [] S o with
              | some (k, l) => callFr h pc S o.dst k l (visF S.heap)
              | none => none
          else
            match callTarget P G S o with
            | some (k, l) => match h (G ++ pc) k l (farH G (selK (ledTo S.heap l) S.heap)) S.next with
              | some (.leaf c, vs) => if S.next ≤ c.next then some (.leaf (({ S with heap := newEnts G S.next c.heap ++ S.heap, next := c.next } : St).setT o.dst ⟨G, c.v⟩), vs) else none
              | _ => none
            | none => none
  else none
theorem allB_app {ρ : Env} {l m : List E} (h : allB ρ l) (k : allB ρ m) : allB ρ (l ++ m) := fun x hx => (List.mem_append.1 hx).elim (h x) (k x)
theorem Blk.ok.down {ρ : Env} {b : Bd} {base base' : Nat → Prop} {w : World} {n : Nat} {B : Blk} (h : B.ok ρ b base' w n) (ho : B.own = true) (hb : ∀ k, base k → base' k) : B.ok ρ b base w n := by
  unfold Blk.ok at h ⊢
  unfold Blk.own at ho
  split at h
  · exact ⟨h.1, fun hc => h.2.1 (hb _ hc), h.2.2⟩
  · exact ⟨h.1, fun hc => h.2.1 (hb _ hc), h.2.2⟩
  · simp_all
theorem HRel.called {ρ : Env} {b b' : Bd} {base : Nat → Prop} {w w' : World} {H H' : List (Nat × HEnt)} {nx nx' : Nat} {G : List E} (h : HRel ρ b base w H (· < nx)) (hb : Agree b b' (· < nx)) (hbase : (∀ k, base k → k < w.heap.size)) (hle : nx ≤ nx') (hbel : Kept (· < w.heap.size) w w')
    (hc : allB ρ G → HRel ρ b' (· < w.heap.size) w' H' (· < nx')) : HRel ρ b' base w' (newEnts G nx H' ++ H) (· < nx') := by
  have hm := h.mono (w' := w') (M := (· < nx')) hb (fun n hn => Nat.lt_of_lt_of_le hn hle) (fun k hk => hbel.block k hk) hbase
  have key : ∀ n e, find (newEnts G nx H' ++ H) n = some e → allB ρ e.g → (∃ x, find H' n = some x ∧ nx ≤ n ∧ x.g = [] ∧ x.blk.own = true ∧ e.blk = x.blk ∧ allB ρ G) ∨ find H n = some e := by
    intro n e hf hg
    rw [find_app] at hf
    split at hf
    · rename_i y hy
      cases hf
      obtain ⟨x, h1, h2⟩ := restrict_mem (find_mem hy)
      split at h2
      · rename_i hcnd
        cases h2
        simp only [Bool.and_eq_true, decide_eq_true_eq] at hcnd
        exact .inl ⟨x, h1, hcnd.1.1, by simpa using hcnd.1.2, hcnd.2, rfl, hg⟩
      · cases h2
    · exact .inr hf
  constructor
  · intro n e hf hg
    rcases key n e hf hg with ⟨x, h1, h2, h3, h4, h5, h6⟩ | hf'
    · obtain ⟨m1, m2, m3⟩ := (hc h6).mem n x h1 (by rw [h3]; exact allB_nil ρ)
      rw [h5]
      exact ⟨m1, m2.down h4 hbase, m3⟩
    · exact hm.mem n e hf' hg
  · intro n m e k hf hk hg hgk ho hok heq
    rcases key n e hf hg with ⟨x, h1, h2, h3, h4, h5, h6⟩ | hf'
    · rcases key m k hk hgk with ⟨y, k1, k2, k3, k4, k5, k6⟩ | hk'
      · exact (hc h6).inj n m x y h1 k1 (by rw [h3]; exact allB_nil ρ) (by rw [k3]; exact allB_nil ρ) h4 k4 heq
      · exfalso
        have e1 := (((hc h6).mem n x h1 (by rw [h3]; exact allB_nil ρ)).2.1.base h4).1
        obtain ⟨m1, m2, _⟩ := h.mem m k hk' hgk
        have e2 := m2.lt hbase
        rw [(hb m m1).1] at heq
        exact e1 (heq ▸ e2)
    · rcases key m k hk hgk with ⟨y, k1, k2, k3, k4, k5, k6⟩ | hk'
      · exfalso
        have e1 := (((hc k6).mem m y k1 (by rw [k3]; exact allB_nil ρ)).2.1.base k4).1
        obtain ⟨m1, m2, _⟩ := h.mem n e hf' hg
        have e2 := m2.lt hbase
        rw [(hb n m1).1] at heq
        exact e1 (heq ▸ e2)
      · exact hm.inj n m e k hf' hk' hg hgk ho hok heq

theorem stepOp_ok {P : Program} {et : TypeId} {h : Handler} {ρ : Env} (he : ρ.et = et) (hh : HOK P ρ h) {pc : List E} {ops : Array Oper} {S : St} {o : Oper} {t : T St} {vs : List VC} (hs : stepOp P et h pc ops S o = some (t, vs)) (hpc : allB ρ pc) (hv : allV ρ vs)
    {b : Bd} {base : Nat → Prop} {w0 w : World} {a : Act} (hr : Rel ρ b base w0 w S a.tmps) {i : Nat} (hi : ops[i]? = some o) {Q : Exit → Act → World → Prop} {K : Act → World → Prop}
    (hk : ∀ b' w' val, Agree b b' (· < S.next) → Rel ρ b' base w0 w' (t.at ρ) (a.put o.dst val).tmps → S.next ≤ (t.at ρ).next → K (a.put o.dst val) w') : wpOp P ops Q i K a w := by
  unfold stepOp at hs
  split at hs
  · rename_i hdst
    have hd := dstOk_ok hdst
    have hnext : ∀ (U : St) (e : Ent), (U.setT o.dst e).next = U.next := by intro U e; cases o.dst <;> rfl
    unfold wpOp
    rw [hi]
    dsimp only
    split at hs
    · cases hs
    · rename_i hg
      have := guardOf_ok hr hg
      dsimp only at this
      rw [this]
      cases hs
      refine hk b w _ (Agree.refl b _) (hr.put hd (fun _ => ⟨rfl, trivial⟩) (fun hn => absurd (allB_nil ρ) hn)) (by rw [T.at, hnext]; exact Nat.le_refl _)
    · rename_i G hg
      have hw := guardOf_ok hr hg
      dsimp only at hw
      split at hs
      · rename_i v hov
        rw [SV.nmS_eq] at hs
        cases hs
        split
        · rename_i hwt
          have hG := hw.1 hwt
          obtain ⟨e1, e2⟩ := opU_ok he hr hG hov
          have e3 := SV.sc_ok b hv e2
          refine .inl (leaves_wp (.inl e1) ?_)
          exact hk b w _ (Agree.refl b _) (hr.put hd (fun _ => ⟨e3.1.symm, e3.2⟩) (fun hn => absurd hG hn)) (by rw [T.at, hnext]; exact Nat.le_refl _)
        · rename_i hwt
          have hG : ¬ allB ρ G := fun hc => hwt (hw.2 hc)
          exact hk b w _ (Agree.refl b _) (hr.put hd (fun hc => absurd hc hG) (fun _ => rfl)) (by rw [T.at, hnext]; exact Nat.le_refl _)
      · split at hs
        · rename_i v cells elem hon
          cases hs
          split
          · rename_i hwt
            have hG := hw.1 hwt
            obtain ⟨e1, e2, e3⟩ := opN_ok hr hG hon
            obtain ⟨ha, hrel⟩ := hr.new e2 elem
            refine .inl (leaves_wp e1 ?_)
            have hrel2 : Rel ρ (b.put S.next w.heap.size 0 0) base w0 (w.alloc (.cells (SV.denL ρ b cells).toArray elem)) (S.newG G cells elem) a.tmps := by
              refine ⟨hrel.heap.partF fun n e hf _ => ?_, hrel.tmps, hrel.below, hrel.base, hrel.nt, hrel.kept⟩
              simp only [St.newG] at hf
              rw [find_push] at hf
              simp only [St.new]
              rw [find_push]
              split at hf
              · rename_i hn
                cases hf
                rw [if_pos hn]
                exact ⟨_, rfl, rfl, allB_nil ρ⟩
              · rename_i hn
                rw [if_neg hn]
                exact ⟨e, hf, rfl, by assumption⟩
            exact hk _ _ _ ha (hrel2.put hd (fun _ => ⟨rfl, e3⟩) (fun hn => absurd hG hn)) (by rw [T.at, hnext]; exact Nat.le_succ _)
          · rename_i hwt
            have hG : ¬ allB ρ G := fun hc => hwt (hw.2 hc)
            have hrel2 : Rel ρ b base w0 w (S.newG G cells elem) a.tmps := by
              have hm := hr.heap.mono (w' := w) (M := (· < S.next + 1)) (Agree.refl b _) (fun n h => Nat.lt_succ_of_lt h) (fun _ _ => rfl) hr.base
              refine ⟨hm.partF fun n e hf hge => ?_, tmps_put hr.tmps (Agree.refl b _) (fun n h => Nat.lt_succ_of_lt h), hr.below, hr.base, hr.nt, hr.kept⟩
              simp only [St.newG] at hf
              rw [find_push] at hf
              split at hf
              · cases hf; exact absurd hge hG
              · exact ⟨e, hf, rfl, hge⟩
            exact hk b w _ (Agree.refl b _) (hrel2.put hd (fun hc => absurd hc hG) (fun _ => rfl)) (by rw [T.at, hnext]; exact Nat.le_succ _)
        · split at hs
          · rename_i v vs' hoi
            cases hs
            split
            · rename_i hwt
              have hG := hw.1 hwt
              obtain ⟨e1, e2⟩ := opI_ok hoi hr hG hpc hv
              refine .inl (leaves_wp (.inl e1) ?_)
              exact hk b w _ (Agree.refl b _) (hr.put hd (fun _ => ⟨rfl, e2⟩) (fun hn => absurd hG hn)) (by rw [T.at, hnext]; exact Nat.le_refl _)
            · rename_i hwt
              have hG : ¬ allB ρ G := fun hc => hwt (hw.2 hc)
              exact hk b w _ (Agree.refl b _) (hr.put hd (fun hc => absurd hc hG) (fun _ => rfl)) (by rw [T.at, hnext]; exact Nat.le_refl _)
          split at hs
          · rename_i t hoj
            cases hs
            split
            · rename_i hwt
              have hG := hw.1 hwt
              obtain ⟨e1, e2⟩ := opJ_ok hoj hr hG
              refine .inl (leaves_wp (.inl e1) ?_)
              exact hk b w _ (Agree.refl b _) (by rw [T.map_at]; exact hr.put hd (fun _ => ⟨rfl, e2⟩) (fun hn => absurd hG hn)) (by rw [T.map_at, hnext]; exact Nat.le_refl _)
            · rename_i hwt
              have hG : ¬ allB ρ G := fun hc => hwt (hw.2 hc)
              exact hk b w _ (Agree.refl b _) (by rw [T.map_at]; exact hr.put hd (fun hc => absurd hc hG) (fun _ => rfl)) (by rw [T.map_at, hnext]; exact Nat.le_refl _)
          split at hs
          · rename_i hGe
            have hGe' : G = [] := by simpa using hGe
            subst hGe'
            rw [if_pos (hw.2 (allB_nil ρ))]
            split at hs
            · rename_i v S' how
              split at hs
              · rename_i hnt
                cases hs
                obtain ⟨b', w', e1, e2, e3, e4, e5⟩ := opW_ok hr (allB_nil ρ) how
                refine .inl (leaves_wp e1 ?_)
                exact hk b' w' _ e2 (e3.put (fun d hd' => by rw [hnt]; exact hd d hd') (fun _ => ⟨rfl, e4⟩) (fun hn => absurd (allB_nil ρ) hn)) (by rw [T.at, hnext]; exact e5)
              · cases hs
            · split at hs
              · rename_i k l hct
                unfold callFr at hs
                split at hs
                · rename_i r vs' hhr
                  cases hs
                  obtain ⟨e1, e2⟩ := callTarget_ok hct hr (allB_nil ρ)
                  have hV := hr.heap.visF
                  have hFb : ∀ k, base k → FrP ρ b base w (visF S.heap) (ledTo (visF S.heap) l) k := fun k hk => .inl hk
                  have hFl : ∀ k, FrP ρ b base w (visF S.heap) (ledTo (visF S.heap) l) k → k < w.heap.size := fun k hk => hk.elim (hr.base k) (fun x => x.1)
                  have hcall := hh _ _ _ _ _ _ _ hhr hpc hv b (FrP ρ b base w (visF S.heap) (ledTo (visF S.heap) l)) w w (hV.split _) ((hr.kept.kept hr.below).mono hFb) (Kept.refl _ _) hFl e2
                  left
                  unfold Oper.wp
                  rw [e1]
                  refine hcall.mono ?_
                  rintro e w' ⟨b', rfl, c1, c2, c3, c4, c5, c6⟩
                  refine hk b' w' _ c1 ?_ (by rw [T.map_at, hnext]; exact c6)
                  rw [T.map_at]
                  have hrel2 : Rel ρ b' base w0 w' ({ S with heap := joinH (r.at ρ).heap (visF S.heap) (ledTo (visF S.heap) l), next := (r.at ρ).next } : St) a.tmps :=
                    ⟨hV.join hr.base c1 (fun n h => Nat.lt_of_lt_of_le h c6) c4 c2, tmps_put hr.tmps c1 (fun n h => Nat.lt_of_lt_of_le h c6), hr.below.trans (c4.mono hFb), fun k hk => Nat.lt_of_lt_of_le (hr.base k hk) c4.size, hr.nt, hr.kept⟩
                  exact hrel2.put hd (fun _ => ⟨rfl, c3⟩) (fun hn => absurd (allB_nil ρ) hn)
                · cases hs
              · cases hs
          · split at hs
            · rename_i k l hct
              split at hs
              · rename_i c vs' hhr
                split at hs
                · rename_i hnx
                  cases hs
                  split
                  · rename_i hwt
                    have hG := hw.1 hwt
                    obtain ⟨e1, e2⟩ := callTarget_ok hct hr hG
                    have hcall := hh _ _ _ _ _ _ _ hhr (allB_app hG hpc) hv b (· < w.heap.size) w w ((hr.heap.partF fun n e hf hg => by
                      rw [find_selK] at hf
                      split at hf
                      · exact ⟨e, hf, rfl, hg⟩
                      · cases hf).far hG hr.base) ((hr.kept.kept hr.below).mono hr.base) (Kept.refl _ _) (fun _ h => h) e2
                    left
                    unfold Oper.wp
                    rw [e1]
                    refine hcall.mono ?_
                    rintro e w' ⟨b', rfl, c1, c2, c3, c4, c5, c6⟩
                    simp only [T.at] at c2 c3 c6 ⊢
                    refine hk b' w' _ c1 ?_ (by rw [T.at, hnext]; exact c6)
                    have hrel2 : Rel ρ b' base w0 w' ({ S with heap := newEnts G S.next c.heap ++ S.heap, next := c.next } : St) a.tmps :=
                      ⟨hr.heap.called c1 hr.base c6 c4 (fun _ => c2), tmps_put hr.tmps c1 (fun n h => Nat.lt_of_lt_of_le h c6), hr.below.trans (c4.mono hr.base), fun k hk => Nat.lt_of_lt_of_le (hr.base k hk) c4.size, hr.nt, hr.kept⟩
                    exact hrel2.put hd (fun _ => ⟨rfl, c3⟩) (fun hn => absurd hG hn)
                  · rename_i hwt
                    have hG : ¬ allB ρ G := fun hc => hwt (hw.2 hc)
                    have hrel2 : Rel ρ b base w0 w ({ S with heap := newEnts G S.next c.heap ++ S.heap, next := c.next } : St) a.tmps :=
                      ⟨hr.heap.called (Agree.refl b _) hr.base hnx (Kept.refl _ _) (fun hc => absurd hc hG), tmps_put hr.tmps (Agree.refl b _) (fun n h => Nat.lt_of_lt_of_le h hnx), hr.below, hr.base, hr.nt, hr.kept⟩
                    exact hk b w _ (Agree.refl b _) (hrel2.put hd (fun hc => absurd hc hG) (fun _ => rfl)) (by rw [T.at, hnext]; exact hnx)
                · cases hs
              · cases hs
            · cases hs
  · cases hs
end Go.Proofs.Ytdfpenjhpemokaa.Sx
/-
  A verified symbolic executor, part 16: regions, code, functions.
-/
namespace Go.Proofs.Ytdfpenjhpemokaa.Sx
open Go.RowKit (Below)

def has (pc : List E) (d : E) : Bool := pc.any fun x => x.same d
def XK.ex : XK → Exit
  | .normal => .normal
  | .exit id => .exit id
  | .ret => .ret
end Go.Proofs.Ytdfpenjhpemokaa.Sx
/-
  A verified symbolic executor, part 17: functions that are gone into; contracts.
-/
namespace Go.Proofs.Ytdfpenjhpemokaa.Sx
open Go.RowKit (Below)

def argsT (l : List SV) : List (Nat × Ent) := l.zipIdx.map fun x => (x.2, ⟨[], x.1⟩)
end Go.Proofs.Ytdfpenjhpemokaa.Sx
