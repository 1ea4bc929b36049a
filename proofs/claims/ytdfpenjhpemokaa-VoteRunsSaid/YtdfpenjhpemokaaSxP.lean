/-
  A verified symbolic executor, part 16: regions, code, functions.
-/
import Derived.Test.YtdfpenjhpemokaaSxO
set_option linter.unusedVariables false
set_option linter.unusedSimpArgs false
namespace Go.Proofs.Ytdfpenjhpemokaa.Sx
open Go.RowKit (Below)

/-- The operations of a region, in the order of their numbers. -/
def runIx (P : Program) (et : TypeId) (h : Handler) (ops : Array Oper) : List Nat → List E → St → Option (T St × List VC)
  | [], _, S => some (.leaf S, [])
  | i :: l, pc, S =>
    match ops[i]? with
    | some o => match stepOp P et h pc ops S o with
      | some (t, v) => match T.bind (fun pc S => runIx P et h ops l pc S) pc t with
        | some (t', v') => some (t', v ++ v')
        | none => none
      | none => none
    | none => none
/-- What of the temporaries is kept. -/
def finT (kp : Nat → Bool) : List Nat → List (Nat × Ent) → List (Nat × Ent)
  | _, [] => []
  | seen, (n, e) :: r =>
    if kp n then
      if seen.any (Nat.beq n) then finT kp seen r
      else if e.g.isEmpty then (n, e) :: finT kp (n :: seen) r else finT kp (n :: seen) r
    else finT kp seen r
theorem finT_find {kp : Nat → Bool} : ∀ {L : List (Nat × Ent)} {seen : List Nat} {n : Nat} {e : Ent}, find (finT kp seen L) n = some e → find L n = some e ∧ ¬ n ∈ seen ∧ kp n = true := by
  intro L
  induction L with
  | nil => intro seen n e h; cases h
  | cons a r ih =>
    obtain ⟨m, x⟩ := a
    intro seen n e h
    simp only [finT] at h
    have hne : find (finT kp seen r) n = some e → (kp m = true → m ∈ seen) → find ((m, x) :: r) n = some e ∧ ¬ n ∈ seen ∧ kp n = true := by
      intro h hm
      obtain ⟨h1, h2, h3⟩ := ih h
      refine ⟨?_, h2, h3⟩
      simp only [find]
      rw [if_neg]
      · exact h1
      · intro hc; subst hc; exact h2 (hm h3)
    split at h
    · split at h
      · rename_i hs
        rw [List.any_eq_true] at hs
        obtain ⟨y, hy, hyn⟩ := hs
        exact hne h fun _ => by rw [Nat.eq_of_beq_eq_true hyn]; exact hy
      · rename_i hk hs
        have hs' : ¬ m ∈ seen := fun hc => hs (List.any_eq_true.2 ⟨m, hc, Nat.beq_refl m⟩)
        have hpush : find (finT kp (m :: seen) r) n = some e → find ((m, x) :: r) n = some e ∧ ¬ n ∈ seen ∧ kp n = true := by
          intro h
          obtain ⟨h1, h2, h3⟩ := ih h
          rw [List.mem_cons, not_or] at h2
          refine ⟨?_, h2.2, h3⟩
          simp only [find]
          rw [if_neg fun hc => h2.1 hc.symm]
          exact h1
        split at h
        · simp only [find] at h ⊢
          split at h
          · rename_i hmn
            cases h
            subst hmn
            exact ⟨by simp, hs', hk⟩
          · rename_i hmn
            have := hpush h
            simp only [find] at this
            exact this
        · exact hpush h
    · rename_i hk
      exact hne h fun hc => absurd hc hk
/-- What of a state is kept behind a region. -/
def St.fin (kp : Nat → Bool) (S : St) : St :=
  { S with tmps := finT kp [] S.tmps, heap := if S.heap.all (fun x => x.2.g.isEmpty) then S.heap else visH S.heap }
/-- The same, its numbers worked out. -/
def St.finF {β : Type} (kp : Nat → Bool) (S : St) (k : St → β) : β := match S with
  | ⟨tm, H, nx, nt⟩ => force nx fun nx => force nt fun nt => match H.all (fun x => x.2.g.isEmpty) with
    | true => k ⟨finT kp [] tm, H, nx, nt⟩
    | false => k ⟨finT kp [] tm, visH H, nx, nt⟩
theorem St.finF_eq {β : Type} (kp : Nat → Bool) (S : St) (k : St → β) : S.finF kp k = k (S.fin kp) := by
  obtain ⟨tm, H, nx, nt⟩ := S
  simp only [St.finF, force_eq, St.fin]
  split <;> rename_i h <;> simp [h]
/-- Behind a region. -/
def T.finR {β : Type} (kp : Nat → Bool) : T St → (T Lf → β) → β
  | .leaf S, k => S.finF kp fun S => k (.leaf ⟨.normal, S⟩)
  | .node d t u, k => T.finR kp t fun t => T.finR kp u fun u => k (.node d t u)
theorem T.finR_eq {β : Type} (kp : Nat → Bool) : ∀ (t : T St) (k : T Lf → β), T.finR kp t k = k (t.map fun S => ⟨.normal, S.fin kp⟩) := by
  intro t
  induction t with
  | leaf S => intro k; simp only [T.finR, St.finF_eq, T.map]
  | node d t u iht ihu => intro k; simp only [T.finR, iht, ihu, T.map]
theorem Rel.fin {ρ : Env} {b : Bd} {base : Nat → Prop} {w0 w : World} {S : St} {tm : Array Value} (h : Rel ρ b base w0 w S tm) (kp : Nat → Bool) : Rel ρ b base w0 w (S.fin kp) tm := by
  refine ⟨?_, fun i e hf => h.tmps i _ (finT_find hf).1, h.below, h.base, h.nt, h.kept⟩
  show HRel ρ b base w (if S.heap.all (fun x => x.2.g.isEmpty) then S.heap else visH S.heap) (· < S.next)
  split
  · exact h.heap
  · exact h.heap.vis
theorem runIx_ok {P : Program} {et : TypeId} {h : Handler} {ρ : Env} (he : ρ.et = et) (hh : HOK P ρ h) {ops : Array Oper} {Q : Exit → Act → World → Prop} : ∀ {l : List Nat} {pc : List E} {S : St} {t : T St} {vs : List VC}, runIx P et h ops l pc S = some (t, vs) → allB ρ pc → allV ρ vs →
    ∀ {b : Bd} {base : Nat → Prop} {w0 w : World} {a : Act}, Rel ρ b base w0 w S a.tmps → (∀ b' w' a', a'.defers = a.defers → Agree b b' (· < S.next) → Rel ρ b' base w0 w' (t.at ρ) a'.tmps → S.next ≤ (t.at ρ).next → Q .normal a' w') → wpOps P ops Q l a w := by
  intro l
  induction l with
  | nil =>
    intro pc S t vs hs hpc hv b base w0 w a hr hk
    cases hs
    exact hk b w a rfl (Agree.refl b _) hr (Nat.le_refl _)
  | cons i l ih =>
    intro pc S t vs hs hpc hv b base w0 w a hr hk
    rw [wpOps_cons]
    simp only [runIx] at hs
    split at hs
    · rename_i o ho
      split at hs
      · rename_i t1 v1 h1
        split at hs
        · rename_i t2 v2 h2
          cases hs
          rw [allV_app] at hv
          obtain ⟨pc', r', vs', a1, a2, a3, a4⟩ := T.bind_ok h2 hpc hv.2
          refine stepOp_ok he hh h1 hpc hv.1 hr ho (fun b' w' val d2 d3 d4 => ?_)
          have d1 : (a.put o.dst val).defers = a.defers := by cases o.dst <;> rfl
          refine ih a1 a2 a3 d3 (fun b2 w2 a2' f1 f2 f3 f4 => ?_)
          rw [← a4] at f3 f4
          exact hk b2 w2 a2' (f1.trans d1) (d2.trans f2 (fun n hn => Nat.lt_of_lt_of_le hn d4)) f3 (Nat.le_trans d4 f4)
        · cases hs
      · cases hs
    · cases hs

/-- As often as it takes. -/
def loopN (f : List E → St → Option (T Lf × List VC)) : Nat → List E → St → Option (T Lf × List VC)
  | 0, _, _ => none
  | n + 1, pc, S =>
    match f pc S with
    | some (t, v) => match T.bind (fun pc l => match l.x with
        | .normal => loopN f n pc l.st
        | _ => some (.leaf l, [])) pc t with
      | some (t', v') => some (t', v ++ v')
      | none => none
    | none => none
def has (pc : List E) (d : E) : Bool := pc.any fun x => x.same d
theorem has_ok {ρ : Env} {pc : List E} {d : E} (h : has pc d = true) (hpc : allB ρ pc) : d.b ρ = true := by
  unfold has at h
  rw [List.any_eq_true] at h
  obtain ⟨x, hx, hs⟩ := h
  rw [← E.same_eq hs]; exact hpc x hx
structure Fc where
  kp : Nat → Nat → Bool
  lit : Bool
  bound : Nat
  big : Nat
def exec (P : Program) (et : TypeId) (h : Handler) (drw : Array Oper → List E → St → Option (T St × List VC)) (c : Fc) : Code → List E → St → Option (T Lf × List VC)
  | .skip, _, S => some (.leaf ⟨.normal, S⟩, [])
  | .region id ops draw, pc, S =>
    match (if draw then drw ops pc S else runIx P et h ops (List.range ops.size) pc S) with
    | some (t, v) => T.finR (c.kp id) t fun t => some (T.nrm et c.lit c.big S.next t v)
    | none => none
  | .seq x y, pc, S =>
    match exec P et h drw c x pc S with
    | some (t, v) => match T.bind (fun pc l => match l.x with
        | .normal => exec P et h drw c y pc l.st
        | _ => some (.leaf l, [])) pc t with
      | some (t', v') => some (T.nrm et c.lit c.big S.next t' (v ++ v'))
      | none => none
    | none => none
  | .cond o x y, pc, S =>
    match ev [] S o with
    | some (.bool (.bc true)) => exec P et h drw c x pc S
    | some (.bool (.bc false)) => exec P et h drw c y pc S
    | some (.bool d) =>
      if has pc d then exec P et h drw c x pc S
      else if has pc (mkNot d) then exec P et h drw c y pc S
      else match exec P et h drw c x (d :: pc) (S.under et d), exec P et h drw c y (mkNot d :: pc) (S.under et (mkNot d)) with
        | some (t, v), some (u, v') => some (T.nrm et c.lit c.big S.next (.node d t u) (v ++ v'))
        | _, _ => none
    | _ => none
  | .block id x, pc, S =>
    match exec P et h drw c x pc S with
    | some (t, v) => some (T.nrm et c.lit c.big S.next (t.map fun l => if l.x = .exit id then ⟨.normal, l.st⟩ else l) v)
    | none => none
  | .loop x, pc, S => loopN (exec P et h drw c x) c.bound pc S
  | .exit id, _, S => some (.leaf ⟨.exit id, S⟩, [])
  | .ret, _, S => some (.leaf ⟨.ret, S⟩, [])
  | _, _, _ => none

def XK.ex : XK → Exit
  | .normal => .normal
  | .exit id => .exit id
  | .ret => .ret
/-- Where a piece of code comes to. -/
def Goes (ρ : Env) (base : Nat → Prop) (w0 : World) (b : Bd) (nx : Nat) (l : Lf) (dfs : List Deferred) : Exit → Act → World → Prop := fun e a' w' =>
  e = l.x.ex ∧ a'.defers = dfs ∧ ∃ b', Agree b b' (· < nx) ∧ Rel ρ b' base w0 w' l.st a'.tmps ∧ nx ≤ l.st.next
/-- A region whose order is drawn. -/
def DOK (P : Program) (ρ : Env) (drw : Array Oper → List E → St → Option (T St × List VC)) : Prop :=
  ∀ ops pc S t vs, drw ops pc S = some (t, vs) → allB ρ pc → allV ρ vs → ∀ id b base w0 w a, Rel ρ b base w0 w S a.tmps →
    (Code.region id ops true).wp P (fun e a' w' => e = .normal ∧ a'.defers = a.defers ∧ ∃ b', Agree b b' (· < S.next) ∧ Rel ρ b' base w0 w' (t.at ρ) a'.tmps ∧ S.next ≤ (t.at ρ).next) a w

theorem Goes.nrm {ρ : Env} {base : Nat → Prop} {w0 : World} {b : Bd} {nx : Nat} {dfs : List Deferred} {et : TypeId} (he : ρ.et = et) {k : Bool} {big n0 : Nat} {t : T Lf} {v : List VC} (hv : allV ρ (T.nrm et k big n0 t v).2) {e : Exit} {a : Act} {w : World} (h : Goes ρ base w0 b nx (t.at ρ) dfs e a w) : Goes ρ base w0 b nx ((T.nrm et k big n0 t v).1.at ρ) dfs e a w := by
  obtain ⟨h1, h2, b', h3, h4, h5⟩ := h
  obtain ⟨m1, m2, m3⟩ := (T.nrm_ok he hv).2 h4
  exact ⟨by rw [m1]; exact h1, h2, b', h3, m2, Nat.le_trans h5 m3⟩

theorem loopN_ok {P : Program} {ρ : Env} {f : List E → St → Option (T Lf × List VC)} {c : Code} (hf : ∀ pc S t vs, f pc S = some (t, vs) → allB ρ pc → allV ρ vs → ∀ b base w0 w a, Rel ρ b base w0 w S a.tmps → c.wp P (Goes ρ base w0 b S.next (t.at ρ) a.defers) a w) :
    ∀ n pc S t vs, loopN f n pc S = some (t, vs) → allB ρ pc → allV ρ vs → ∀ b base w0 w a, Rel ρ b base w0 w S a.tmps → Code.rounds P c (Goes ρ base w0 b S.next (t.at ρ) a.defers) n a w := by
  intro n
  induction n with
  | zero => intro pc S t vs h; cases h
  | succ n ih =>
    intro pc S t vs h hpc hv b base w0 w a hr
    simp only [loopN] at h
    split at h
    · rename_i t1 v1 h1
      split at h
      · rename_i t2 v2 h2
        cases h
        rw [allV_app] at hv
        obtain ⟨pc', r', vs', a1, a2, a3, a4⟩ := T.bind_ok h2 hpc hv.2
        rw [rounds_succ]
        refine wp_mono (hf _ _ _ _ h1 hpc hv.1 b base w0 w a hr) ?_
        rintro e a' w' ⟨g1, g2, b', g3, g4, g5⟩
        rw [a4]
        generalize (t1.at ρ) = l at *
        obtain ⟨x, st⟩ := l
        cases x with
        | normal =>
          simp only [XK.ex] at g1
          subst g1
          simp only [Exit.then]
          have key := ih _ _ _ _ a1 a2 a3 b' base w0 w' a' g4
          refine rounds_mono (fun e a w h => ?_) n a' w' key
          obtain ⟨k1, k2, b2, k3, k4, k5⟩ := h
          exact ⟨k1, k2.trans g2, b2, g3.trans k3 (fun n hn => Nat.lt_of_lt_of_le hn g5), k4, Nat.le_trans g5 k5⟩
        | exit id =>
          cases a1
          subst g1
          exact ⟨rfl, g2, b', g3, g4, g5⟩
        | ret =>
          cases a1
          subst g1
          exact ⟨rfl, g2, b', g3, g4, g5⟩
      · cases h
    · cases h
where
  rounds_mono {P : Program} {c : Code} {Q Q' : Exit → Act → World → Prop} (hq : ∀ e a w, Q e a w → Q' e a w) : ∀ n a w, Code.rounds P c Q n a w → Code.rounds P c Q' n a w := by
    intro n
    induction n with
    | zero => intro a w h; exact h.elim
    | succ n ih =>
      intro a w h
      rw [rounds_succ] at h ⊢
      refine wp_mono h ?_
      intro e a' w' h'
      cases e <;> simp only [Exit.then] at h' ⊢ <;> first | exact ih _ _ h' | exact hq _ _ _ h'

theorem exec_ok {P : Program} {et : TypeId} {h : Handler} {ρ : Env} (he : ρ.et = et) (hh : HOK P ρ h) {drw : Array Oper → List E → St → Option (T St × List VC)} (hd : DOK P ρ drw) {c : Fc} : ∀ (x : Code) (pc : List E) (S : St) (t : T Lf) (vs : List VC), exec P et h drw c x pc S = some (t, vs) → allB ρ pc → allV ρ vs →
    ∀ b base w0 w a, Rel ρ b base w0 w S a.tmps → x.wp P (Goes ρ base w0 b S.next (t.at ρ) a.defers) a w := by
  intro x
  induction x with
  | skip =>
    intro pc S t vs hs hpc hv b base w0 w a hr
    simp only [exec] at hs
    cases hs
    exact wp_skip ⟨rfl, rfl, b, Agree.refl b _, hr, Nat.le_refl _⟩
  | region id ops draw =>
    intro pc S t vs hs hpc hv b base w0 w a hr
    simp only [exec] at hs
    split at hs
    · rename_i t1 v1 h1
      rw [T.finR_eq] at hs
      obtain ⟨rfl, rfl⟩ := nrm_some hs
      have hv0 := hv
      have hv := (T.nrm_ok he hv).1
      cases draw with
      | false =>
        simp only [Bool.false_eq_true, if_false] at h1
        refine wp_region (runIx_ok he hh h1 hpc hv hr (fun b' w' a' d1 d2 d3 d4 => ?_))
        refine Goes.nrm he hv0 ?_
        rw [T.map_at]
        exact ⟨rfl, d1, b', d2, d3.fin (c.kp id), d4⟩
      | true =>
        simp only [if_true] at h1
        refine wp_mono (hd _ _ _ _ _ h1 hpc hv id b base w0 w a hr) ?_
        rintro e a' w' ⟨rfl, d1, b', d2, d3, d4⟩
        refine Goes.nrm he hv0 ?_
        rw [T.map_at]
        exact ⟨rfl, d1, b', d2, d3.fin (c.kp id), d4⟩
    · cases hs
  | seq x y ihx ihy =>
    intro pc S t vs hs hpc hv b base w0 w a hr
    simp only [exec] at hs
    split at hs
    · rename_i t1 v1 h1
      split at hs
      · rename_i t2 v2 h2
        obtain ⟨rfl, rfl⟩ := nrm_some hs
        have hv0 := hv
        have hv := (T.nrm_ok he hv).1
        rw [allV_app] at hv
        obtain ⟨pc', r', vs', a1, a2, a3, a4⟩ := T.bind_ok h2 hpc hv.2
        refine wp_seq (wp_mono (ihx _ _ _ _ h1 hpc hv.1 b base w0 w a hr) ?_)
        rintro e a' w' ⟨g1, g2, b', g3, g4, g5⟩
        generalize (t1.at ρ) = l at *
        obtain ⟨xk, st⟩ := l
        cases xk with
        | normal =>
          simp only [XK.ex] at g1
          subst g1
          simp only [Exit.then]
          refine wp_mono (ihy _ _ _ _ a1 a2 a3 b' base w0 w' a' g4) ?_
          rintro e a2' w2 ⟨k1, k2, b2, k3, k4, k5⟩
          refine Goes.nrm he hv0 ?_
          rw [a4]
          exact ⟨k1, k2.trans g2, b2, g3.trans k3 (fun n hn => Nat.lt_of_lt_of_le hn g5), k4, Nat.le_trans g5 k5⟩
        | exit id =>
          cases a1
          subst g1
          refine Goes.nrm he hv0 ?_
          rw [a4]
          exact ⟨rfl, g2, b', g3, g4, g5⟩
        | ret =>
          cases a1
          subst g1
          refine Goes.nrm he hv0 ?_
          rw [a4]
          exact ⟨rfl, g2, b', g3, g4, g5⟩
      · cases hs
    · cases hs
  | cond o x y ihx ihy =>
    intro pc S t vs hs hpc hv b base w0 w a hr
    simp only [exec] at hs
    split at hs
    · rename_i hev
      have e1 := (ev_ok hr (allB_nil ρ) hev).1
      exact wp_cond_true e1 (ihx _ _ _ _ hs hpc hv b base w0 w a hr)
    · rename_i hev
      have e1 := (ev_ok hr (allB_nil ρ) hev).1
      exact wp_cond_false e1 (ihy _ _ _ _ hs hpc hv b base w0 w a hr)
    · rename_i d _ _ hev
      have e1 : a.eval o = .bool (d.b ρ) := (ev_ok hr (allB_nil ρ) hev).1
      split at hs
      · rename_i hp
        rw [has_ok hp hpc] at e1
        exact wp_cond_true e1 (ihx _ _ _ _ hs hpc hv b base w0 w a hr)
      · split at hs
        · rename_i hp
          have := has_ok hp hpc
          rw [mkNot_b] at this
          have hdf : d.b ρ = false := by simpa using this
          rw [hdf] at e1
          exact wp_cond_false e1 (ihy _ _ _ _ hs hpc hv b base w0 w a hr)
        · split at hs
          · rename_i t1 v1 u1 v2 h1 h2
            obtain ⟨rfl, rfl⟩ := nrm_some hs
            have hv0 := hv
            have hv := (T.nrm_ok he hv).1
            rw [allV_app] at hv
            by_cases hdt : d.b ρ = true
            · rw [hdt] at e1
              refine wp_cond_true e1 (wp_mono (ihx _ _ _ _ h1 (allB_cons hdt hpc) hv.1 b base w0 w a (hr.under he hdt)) ?_)
              intro e a' w' hg
              refine Goes.nrm he hv0 ?_
              simp only [T.at, hdt, if_true]
              exact hg
            · have hdf : d.b ρ = false := by simpa using hdt
              have hdn : (mkNot d).b ρ = true := by rw [mkNot_b, hdf]; rfl
              rw [hdf] at e1
              refine wp_cond_false e1 (wp_mono (ihy _ _ _ _ h2 (allB_cons hdn hpc) hv.2 b base w0 w a (hr.under he hdn)) ?_)
              intro e a' w' hg
              refine Goes.nrm he hv0 ?_
              simp only [T.at, hdf, Bool.false_eq_true, if_false]
              exact hg
          · cases hs
    · cases hs
  | block id x ih =>
    intro pc S t vs hs hpc hv b base w0 w a hr
    simp only [exec] at hs
    split at hs
    · rename_i t1 v1 h1
      obtain ⟨rfl, rfl⟩ := nrm_some hs
      have hv0 := hv
      have hv := (T.nrm_ok he hv).1
      refine wp_block (wp_mono (ih _ _ _ _ h1 hpc hv b base w0 w a hr) ?_)
      rintro e a' w' ⟨g1, g2, b', g3, g4, g5⟩
      have key : ∀ e, e = (if (t1.at ρ).x = .exit id then (⟨.normal, (t1.at ρ).st⟩ : Lf) else t1.at ρ).x.ex → Goes ρ base w0 b S.next ((T.nrm et c.lit c.big S.next (t1.map fun l => if l.x = .exit id then ⟨.normal, l.st⟩ else l) v1).1.at ρ) a.defers e a' w' := by
        intro e hee
        refine Goes.nrm he hv0 ?_
        rw [T.map_at]
        refine ⟨hee, g2, b', g3, ?_, ?_⟩
        · split <;> exact g4
        · split <;> exact g5
      subst g1
      cases hx : (t1.at ρ).x with
      | normal => exact key _ (by rw [if_neg (by rw [hx]; simp), hx])
      | exit id' =>
        simp only [XK.ex, Exit.inBlock]
        by_cases hid : id' = id
        · rw [if_pos hid]
          exact key _ (by rw [if_pos (by rw [hx, hid])]; rfl)
        · rw [if_neg hid]
          exact key _ (by rw [if_neg (by rw [hx]; simp [hid]), hx]; rfl)
      | ret => exact key _ (by rw [if_neg (by rw [hx]; simp), hx])
    · cases hs
  | loop x ih =>
    intro pc S t vs hs hpc hv b base w0 w a hr
    simp only [exec] at hs
    exact wp_loop_rounds c.bound (loopN_ok ih _ _ _ _ _ hs hpc hv b base w0 w a hr)
  | exit id =>
    intro pc S t vs hs hpc hv b base w0 w a hr
    simp only [exec] at hs
    cases hs
    exact wp_exit ⟨rfl, rfl, b, Agree.refl b _, hr, Nat.le_refl _⟩
  | ret =>
    intro pc S t vs hs hpc hv b base w0 w a hr
    simp only [exec] at hs
    cases hs
    exact wp_ret ⟨rfl, rfl, b, Agree.refl b _, hr, Nat.le_refl _⟩
  | _ =>
    intros
    rename_i hs _ _ _ _ _ _ _ _
    simp [exec] at hs
end Go.Proofs.Ytdfpenjhpemokaa.Sx
