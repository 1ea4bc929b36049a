/-
  A verified symbolic executor: pieces of code, whose ends are told; functions cut at a loop.
-/
import Derived.Test.YtdfpenjhpemokaaSxY
set_option linter.unusedVariables false
set_option linter.unusedSimpArgs false
namespace Go.Proofs.Ytdfpenjhpemokaa.Sx
open Go.RowKit (Below)

/-- One end of a piece of code: under what, which way it goes, the state that is left, its names read anew. -/
structure LS where
  pc : List E
  x : XK
  S : St
  σ : Sub
def T.leaves {α : Type} : List E → T α → List (List E × α)
  | pc, .leaf x => [(pc, x)]
  | pc, .node c t u => T.leaves (c :: pc) t ++ T.leaves (mkNot c :: pc) u
theorem T.leaves_at {α : Type} {ρ : Env} : ∀ (t : T α) (pc : List E), allB ρ pc → ∃ q, (q, t.at ρ) ∈ t.leaves pc ∧ allB ρ q := by
  intro t
  induction t with
  | leaf x => intro pc h; exact ⟨pc, .head _, h⟩
  | node c t u iht ihu =>
    intro pc h
    simp only [T.leaves, T.at]
    by_cases hc : c.b ρ = true
    · obtain ⟨q, h1, h2⟩ := iht (c :: pc) (allB_cons hc h)
      rw [if_pos hc]
      exact ⟨q, List.mem_append_left _ h1, h2⟩
    · have hc' : (mkNot c).b ρ = true := by rw [mkNot_b]; simpa using hc
      obtain ⟨q, h1, h2⟩ := ihu (mkNot c :: pc) (allB_cons hc' h)
      rw [if_neg hc]
      exact ⟨q, List.mem_append_right _ h1, h2⟩
def LS.fits (s : LS) (l : List E × Lf) : Bool := sub s.pc l.1 && decide (s.x = l.2.x) && s.S.pat s.σ l.2.st
def fitL : List LS → List (List E × Lf) → Bool
  | [], [] => true
  | s :: l, x :: m => s.fits x && fitL l m
  | _, _ => false
theorem fitL_mem : ∀ {l : List LS} {m : List (List E × Lf)} {x : List E × Lf}, fitL l m = true → x ∈ m → ∃ s ∈ l, s.fits x = true := by
  intro l
  induction l with
  | nil => intro m x h hx; cases m with | nil => cases hx | cons => cases h
  | cons s l ih =>
    intro m x h hx
    cases m with
    | nil => cases hx
    | cons y m =>
      simp only [fitL, Bool.and_eq_true] at h
      cases hx with
      | head => exact ⟨s, .head _, h.1⟩
      | tail _ hx =>
        obtain ⟨s', h1, h2⟩ := ih h.2 hx
        exact ⟨s', .tail _ h1, h2⟩
/-! Code in pieces. -/
def Code.flat : Code → List Code
  | .seq x y => Code.flat x ++ Code.flat y
  | .skip => []
  | c => [c]
def wpL (P : Program) : List Code → (Exit → Act → World → Prop) → Act → World → Prop
  | [], Q, a, w => Q .normal a w
  | c :: l, Q, a, w => c.wp P (Exit.then (wpL P l Q) Q) a w
theorem then_mono {K K' : Act → World → Prop} {Q Q' : Exit → Act → World → Prop} (hK : ∀ a w, K a w → K' a w) (hQ : ∀ e a w, Q e a w → Q' e a w) (e : Exit) (a : Act) (w : World) (h : Exit.then K Q e a w) : Exit.then K' Q' e a w := by
  cases e <;> simp only [Exit.then] at h ⊢ <;> first | exact hK _ _ h | exact hQ _ _ _ h
theorem wpL_mono {P : Program} : ∀ {l : List Code} {Q Q' : Exit → Act → World → Prop}, (∀ e a w, Q e a w → Q' e a w) → ∀ a w, wpL P l Q a w → wpL P l Q' a w := by
  intro l
  induction l with
  | nil => intro Q Q' h a w hq; exact h _ _ _ hq
  | cons c l ih => intro Q Q' h a w hq; exact wp_mono hq (then_mono (ih h) h)
theorem wpL_app {P : Program} : ∀ {l m : List Code} {Q : Exit → Act → World → Prop} {a : Act} {w : World}, wpL P (l ++ m) Q a w ↔ wpL P l (Exit.then (wpL P m Q) Q) a w := by
  intro l
  induction l with
  | nil => intro m Q a w; exact Iff.rfl
  | cons c l ih =>
    intro m Q a w
    simp only [List.cons_append, wpL]
    refine ⟨fun h => wp_mono h ?_, fun h => wp_mono h ?_⟩ <;> intro e a w h <;> cases e <;> simp only [Exit.then] at h ⊢ <;> first | exact ih.1 h | exact ih.2 h | exact h
theorem wp_flat {P : Program} : ∀ (c : Code) {Q : Exit → Act → World → Prop} {a : Act} {w : World}, wpL P (Code.flat c) Q a w → c.wp P Q a w := by
  intro c
  have one : ∀ (c : Code) {Q : Exit → Act → World → Prop} {a : Act} {w : World}, wpL P [c] Q a w → c.wp P Q a w := fun c Q a w h => wp_mono h (by intro e a w h; cases e <;> exact h)
  induction c with
  | seq x y ihx ihy =>
    intro Q a w h
    simp only [Code.flat] at h
    rw [wpL_app] at h
    refine wp_seq (ihx (wpL_mono ?_ _ _ h))
    intro e a w h
    cases e <;> simp only [Exit.then] at h ⊢ <;> first | exact ihy h | exact h
  | skip => intro Q a w h; exact wp_skip h
  | _ => intro Q a w h; exact one _ h
/-- The body of a function, in pieces. -/
def partsOf (P : Program) (f : FuncId) : List Code := match P.funcs[f]? with
  | some fn => match fn.body with
    | some c => Code.flat c
    | none => []
  | none => []
/-- Pieces run one behind the other. -/
def execL (P : Program) (et : TypeId) (h : Handler) (drw : Array Oper → List E → St → Option (T St × List VC)) (c : Fc) : List Code → List E → St → Option (T Lf × List VC)
  | [], _, S => some (.leaf ⟨.normal, S⟩, [])
  | x :: y, pc, S =>
    match exec P et h drw c x pc S with
    | some (t, v) => match T.bind (fun pc l => match l.x with
        | .normal => execL P et h drw c y pc l.st
        | _ => some (.leaf l, [])) pc t with
      | some (t', v') => some (T.nrm et c.lit c.big S.next t' (v ++ v'))
      | none => none
    | none => none
theorem execL_ok {P : Program} {et : TypeId} {h : Handler} {ρ : Env} (he : ρ.et = et) (hh : HOK P ρ h) {drw : Array Oper → List E → St → Option (T St × List VC)} (hd : DOK P ρ drw) {c : Fc} : ∀ (x : List Code) (pc : List E) (S : St) (t : T Lf) (vs : List VC), execL P et h drw c x pc S = some (t, vs) → allB ρ pc → allV ρ vs →
    ∀ b base w0 w a, Rel ρ b base w0 w S a.tmps → wpL P x (Goes ρ base w0 b S.next (t.at ρ) a.defers) a w := by
  intro x
  induction x with
  | nil =>
    intro pc S t vs hs hpc hv b base w0 w a hr
    cases hs
    exact ⟨rfl, rfl, b, Agree.refl b _, hr, Nat.le_refl _⟩
  | cons x y ihy =>
    intro pc S t vs hs hpc hv b base w0 w a hr
    simp only [execL] at hs
    split at hs
    · rename_i t1 v1 h1
      split at hs
      · rename_i t2 v2 h2
        obtain ⟨rfl, rfl⟩ := nrm_some hs
        have hv0 := hv
        have hv := (T.nrm_ok he hv).1
        rw [allV_app] at hv
        obtain ⟨pc', r', vs', a1, a2, a3, a4⟩ := T.bind_ok h2 hpc hv.2
        refine wp_mono (exec_ok he hh hd x _ _ _ _ h1 hpc hv.1 b base w0 w a hr) ?_
        rintro e a' w' ⟨g1, g2, b', g3, g4, g5⟩
        generalize (t1.at ρ) = l at *
        obtain ⟨xk, st⟩ := l
        cases xk with
        | normal =>
          simp only [XK.ex] at g1
          subst g1
          simp only [Exit.then]
          refine wpL_mono ?_ _ _ (ihy _ _ _ _ a1 a2 a3 b' base w0 w' a' g4)
          rintro e a2' w2 ⟨k1, k2, b2, k3, k4, k5⟩
          refine Goes.nrm he hv0 ?_
          rw [a4]
          exact ⟨k1, k2.trans g2, b2, g3.trans k3 (fun n hn => Nat.lt_of_lt_of_le hn g5), k4, Nat.le_trans g5 k5⟩
        | exit id =>
          cases a1
          subst g1
          refine Goes.nrm he hv0 ?_
          rw [a4]
          exact ⟨rfl, g2, b', g3, g4, g5⟩
        | ret =>
          cases a1
          subst g1
          refine Goes.nrm he hv0 ?_
          rw [a4]
          exact ⟨rfl, g2, b', g3, g4, g5⟩
      · cases hs
    · cases hs
/-- Does a piece of code end so, with no more to be shown than this? -/
def ran (r : Option (T Lf × List VC)) (l : List LS) (vcs : List VC) : Bool := match r with
  | some (t, vs) => fitL l (t.leaves []) && vs.all fun v => vcs.any fun u => v.same u
  | none => false
/-- How a piece ends. -/
def Ends (ρ : Env) (base : Nat → Prop) (w0 : World) (b : Bd) (nx : Nat) (l : List LS) (dfs : List Deferred) : Exit → Act → World → Prop := fun e a' w' =>
  a'.defers = dfs ∧ ∃ s ∈ l, e = s.x.ex ∧ allB ρ s.pc ∧ ∃ b', Agree b b' (· < nx) ∧ ∀ ρ', Reads s.σ ρ ρ' → (∀ r ∈ s.S.rs, r.fit ρ') → Rel ρ' b' base w0 w' s.S a'.tmps
theorem ran_ok {P : Program} {et : TypeId} {h : Handler} {ρ : Env} (he : ρ.et = et) (hh : HOK P ρ h) {drw : Array Oper → List E → St → Option (T St × List VC)} (hd : DOK P ρ drw) {c : Fc} {x : List Code} {S : St} {l : List LS} {vcs : List VC} (hr : ran (execL P et h drw c x [] S) l vcs = true) (hv : allV ρ vcs)
    {b : Bd} {base : Nat → Prop} {w0 w : World} {a : Act} (hrel : Rel ρ b base w0 w S a.tmps) : wpL P x (Ends ρ base w0 b S.next l a.defers) a w := by
  unfold ran at hr
  split at hr
  · rename_i t vs hex
    rw [Bool.and_eq_true, List.all_eq_true] at hr
    have hvs : allV ρ vs := fun v hv' => by
      have := hr.2 v hv'
      rw [List.any_eq_true] at this
      obtain ⟨u, hu, hs⟩ := this
      rw [VC.same_eq hs]
      exact hv u hu
    refine wpL_mono ?_ _ _ (execL_ok he hh hd x [] S t vs hex (allB_nil ρ) hvs b base w0 w a hrel)
    rintro e a' w' ⟨h1, h2, b', h3, h4, h5⟩
    obtain ⟨q, q1, q2⟩ := T.leaves_at (ρ := ρ) t [] (allB_nil ρ)
    obtain ⟨s, s1, s2⟩ := fitL_mem hr.1 q1
    simp only [LS.fits, Bool.and_eq_true, decide_eq_true_eq] at s2
    exact ⟨h2, s, s1, by rw [h1, s2.1.2], sub_ok s2.1.1 q2, b', h3, fun ρ' hρ hf => St.pat_ok hρ s2.2 hf h4⟩
  · cases hr

/-- Pieces i to below j. -/
def partOf (P : Program) (f : FuncId) (i j : Nat) : List Code := ((partsOf P f).drop i).take (j - i)
/-- Within the loop that is piece k, in pieces. -/
def loopOf (P : Program) (f : FuncId) (k : Nat) : List Code := match (partsOf P f)[k]? with
  | some (.block _ (.loop x)) => Code.flat x
  | _ => []
/-- Is piece k a loop in the block of that number? -/
def loopAt (P : Program) (f : FuncId) (k i : Nat) : Bool := match (partsOf P f)[k]? with
  | some (.block j (.loop _)) => Nat.beq i j
  | _ => false
/-- A loop, by what holds at each of its rounds, with how many are left. -/
theorem wp_loopAt {P : Program} {f : FuncId} {k i : Nat} (hl : loopAt P f k i = true) {J : Nat → Act → World → Prop} {Q : Exit → Act → World → Prop} {n : Nat} {a : Act} {w : World} (h0 : J n a w)
    (hr : ∀ n a w, J n a w → wpL P (loopOf P f k) (fun e a' w' => match e with | .normal => ∃ m, m < n ∧ J m a' w' | .exit j => if j = i then Q .normal a' w' else Q (.exit j) a' w' | e => Q e a' w') a w) : ∀ c, (partsOf P f)[k]? = some c → c.wp P Q a w := by
  intro c hc
  unfold loopAt at hl
  rw [hc] at hl
  split at hl
  · rename_i j x he
    cases he
    have := Nat.eq_of_beq_eq_true hl
    subst this
    have key : ∀ k' m a w, m < k' → J m a w → Code.rounds P x (Exit.inBlock i Q) k' a w := by
      intro k'
      induction k' with
      | zero => intro m a w h; omega
      | succ k' ih =>
        intro m a w hm hJ
        rw [rounds_succ]
        have key := hr m a w hJ
        unfold loopOf at key
        rw [hc] at key
        refine wp_flat x (wpL_mono ?_ _ _ key)
        intro e a' w' h
        cases e <;> simp only [Exit.then, Exit.inBlock] at h ⊢ <;> first | exact h | skip
        obtain ⟨m', h1, h2⟩ := h
        exact ih m' a' w' (by omega) h2
    exact wp_block (wp_loop_rounds (n + 1) (key (n + 1) n a w (Nat.lt_succ_self n) h0))
  · cases hl
/-- A function cut before piece k and behind it. -/
theorem calls_cut {P : Program} {f : FuncId} {args : Array Value} {w : World} {R : Ending → World → Prop} {fn : Func} (hf : P.funcs[f]? = some fn) (hb : fn.body.isSome = true) {k n : Nat} {c : Code} (hc : (partsOf P f)[k]? = some c) (hn : (partsOf P f).length ≤ n)
    (h : wpL P (partOf P f 0 k) (Exit.then (fun a w => c.wp P (Exit.then (fun a w => wpL P (partOf P f (k + 1) n) (bodyPost P fn R) a w) (bodyPost P fn R)) a w) (bodyPost P fn R)) ⟨args ++ Array.replicate (fn.ntmps - args.size) undef, []⟩ w) : Calls P f args w R := by
  cases hbb : fn.body with
  | none => rw [hbb] at hb; cases hb
  | some body =>
    refine calls_of_wp hf hbb (wp_flat body ?_)
    have e : Code.flat body = partOf P f 0 k ++ ([c] ++ partOf P f (k + 1) n) := by
      have e0 : partsOf P f = Code.flat body := by unfold partsOf; rw [hf]; simp only [hbb]
      unfold partOf
      rw [← e0]
      obtain ⟨hk, hck⟩ := List.getElem?_eq_some_iff.1 hc
      have e1 : ((partsOf P f).drop (k + 1)).take (n - (k + 1)) = (partsOf P f).drop (k + 1) := List.take_of_length_le (by rw [List.length_drop]; omega)
      rw [e1, List.drop_zero, Nat.sub_zero, ← hck, List.singleton_append, ← List.drop_eq_getElem_cons hk, List.take_append_drop]
    rw [e, wpL_app]
    refine wpL_mono ?_ _ _ h
    intro e a w h
    cases e <;> simp only [Exit.then] at h ⊢ <;> first | exact h | skip
/-- A function in one piece. -/
theorem calls_whole {P : Program} {f : FuncId} {args : Array Value} {w : World} {R : Ending → World → Prop} {fn : Func} (hf : P.funcs[f]? = some fn) (hb : fn.body.isSome = true) (h : wpL P (partsOf P f) (bodyPost P fn R) ⟨args ++ Array.replicate (fn.ntmps - args.size) undef, []⟩ w) : Calls P f args w R := by
  cases hbb : fn.body with
  | none => rw [hbb] at hb; cases hb
  | some body =>
    refine calls_of_wp hf hbb (wp_flat body ?_)
    unfold partsOf at h
    rw [hf] at h
    simp only [hbb] at h
    exact h
def startT (args : List SV) (nt : Nat) : List (Nat × Ent) := argsT args
/-- Where a function begins. -/
def start (P : Program) (f : FuncId) (args : List SV) (H : List (Nat × HEnt)) (nx : Nat) : St := match P.funcs[f]? with
  | some fn => ⟨argsT args, H, nx, args.length + (fn.ntmps - args.length)⟩
  | none => ⟨[], [], 0, 0⟩
theorem start_ok {P : Program} {f : FuncId} {fn : Func} (hf : P.funcs[f]? = some fn) {ρ : Env} {b : Bd} {base : Nat → Prop} {w0 w : World} {args : List SV} {H : List (Nat × HEnt)} {nx : Nat} (hH : HRel ρ b base w H (· < nx)) (hmem : Mem ρ base w0) (hbel : Kept base w0 w) (hbase : ∀ k, base k → k < w.heap.size) (hargs : SV.okL ρ (· < nx) args) :
    Rel ρ b base w0 w (start P f args H nx) ((SV.denL ρ b args).toArray ++ Array.replicate (fn.ntmps - (SV.denL ρ b args).toArray.size) undef) := by
  unfold start
  rw [hf]
  refine ⟨hH, fun i e hfe => ?_, hbel, hbase, by simp [denL_length], hmem⟩
  obtain ⟨v, _, h2, rfl⟩ := argsT_find args 0 i e hfe
  simp only [Nat.sub_zero] at h2
  have hl := (List.getElem?_eq_some_iff.1 h2).1
  refine ⟨fun _ => ⟨?_, okL_get hargs h2⟩, fun hn => absurd (allB_nil ρ) hn⟩
  rw [Array.getElem?_append_left (by simpa [denL_length] using hl)]
  simp [denL_get, h2]
/-- What a function hands back. -/
def resultsOf (P : Program) (f : FuncId) (S : St) : Option (List SV) := match P.funcs[f]? with
  | some fn => sResults P S fn.results.toList
  | none => none
theorem ret_ok {P : Program} {f : FuncId} {fn : Func} (hf : P.funcs[f]? = some fn) {S : St} {rs : List SV} (hr : resultsOf P f S = some rs) {ρ : Env} {b : Bd} {base : Nat → Prop} {w0 w : World} {a : Act} {R : Ending → World → Prop} {e : Exit} (he : e = .normal ∨ e = .ret) (hd : a.defers = []) (h : Rel ρ b base w0 w S a.tmps) (hR : (oneOrTup rs).ok ρ (· < S.next) → R (.returned ((oneOrTup rs).den ρ b)) w) :
    bodyPost P fn R e a w := by
  unfold resultsOf at hr
  rw [hf] at hr
  obtain ⟨r1, r2⟩ := run_results h hr
  rcases he with rfl | rfl
  · exact ⟨hd, _, r1, hR r2⟩
  · exact ⟨hd, _, r1, hR r2⟩
def andB (ρ : Env) : List E → Prop
  | [] => True
  | e :: l => e.b ρ = true ∧ andB ρ l
theorem andB_of {ρ : Env} : ∀ {l : List E}, allB ρ l → andB ρ l := by
  intro l
  induction l with
  | nil => intro _; trivial
  | cons e l ih => intro h; exact ⟨h e (.head _), ih fun x hx => h x (.tail _ hx)⟩
def VC.isNo (v : VC) : Bool := match dfOf v with
  | .no => true
  | _ => false
def andV (ρ : Env) : List VC → Prop
  | [] => True
  | v :: l => (andB ρ v.pc → v.e.b ρ = true) ∧ andV ρ l
theorem allV_of {ρ : Env} : ∀ {l : List VC}, andV ρ l → allV ρ l := by
  intro l
  induction l with
  | nil => intro _ v h; cases h
  | cons a l ih =>
    intro h v hv
    cases hv with
    | head => exact fun hp => h.1 (andB_of hp)
    | tail _ hv => exact ih h.2 v hv
/-- The names can be given what they stand for; what is no definition is left to be shown. -/
theorem defs_left {l W : List VC} (h : defs l [] [] = W) (hn : W.all VC.isNo = true) (ρ : Env) : ∃ ρ', Same ρ ρ' [] [] ∧ saysL ρ' l ∧ (allV ρ' W → allV ρ' l) := by
  obtain ⟨ρ', h1, h2⟩ := defs_ok l [] [] ρ ⟨fun h e hm => (by cases hm), fun h e hm => (by cases hm)⟩
  rw [h] at h2
  refine ⟨ρ', h1, ?_, fun hW v hv => (h2 v hv).elim id (hW v)⟩
  have key : ∀ m : List VC, (∀ v ∈ m, v.holds ρ' ∨ v ∈ W) → saysL ρ' m := by
    intro m
    induction m with
    | nil => intro _; trivial
    | cons a m ih =>
      intro hm
      refine ⟨?_, ih fun v hv => hm v (.tail _ hv)⟩
      rcases hm a (.head _) with ha | ha
      · exact says_of ha
      · have := List.all_eq_true.1 hn a ha
        unfold VC.isNo at this
        unfold VC.says
        split at this
        · rename_i hd; rw [hd]; trivial
        · cases this
  exact key l h2
/-- Pieces of a function, run as the whole would be. -/
def runP (P : Program) (et : TypeId) (cfg : Cfg) (f : FuncId) (cs : List Code) (S : St) : Option (T Lf × List VC) := execL P et (callN P et cfg (runDraw P et) 20) (runDraw P et (callN P et cfg (runDraw P et) 20)) (cfg.fc f) cs [] S
theorem runP_ok {P : Program} {et : TypeId} {cfg : Cfg} {f : FuncId} {cs : List Code} {S : St} {l : List LS} {vcs : List VC} (hr : ran (runP P et cfg f cs S) l vcs = true) {ρ : Env} (he : ρ.et = et) (hs : HOK P ρ cfg.sum) (hv : allV ρ vcs)
    {b : Bd} {base : Nat → Prop} {w0 w : World} {a : Act} (hrel : Rel ρ b base w0 w S a.tmps) : wpL P cs (Ends ρ base w0 b S.next l a.defers) a w :=
  have hc := callN_ok he hs (fun h hh => runDraw_ok he h hh) 20
  ran_ok he hc (runDraw_ok he _ hc) hr hv hrel
/-- A law whose body holds one loop: it answers true. -/
theorem loop1_true {P : Program} {et : TypeId} {cfg : Cfg} {f : FuncId} {fn : Func} (hf : P.funcs[f]? = some fn) (hb : fn.body.isSome = true) {k i n : Nat} (hn : (partsOf P f).length ≤ n) (hl : loopAt P f k i = true)
    {args : List SV} {H : List (Nat × HEnt)} {nx : Nat} {S1 : St} {L0 L1 L2 : List LS} {V0 V1 V2 : List VC}
    (r0 : ran (runP P et cfg f (partOf P f 0 k) (start P f args H nx)) L0 V0 = true) (d0 : defs V0 [] [] = [])
    (r1 : ran (runP P et cfg f (loopOf P f k) S1) L1 V1 = true) (d1 : defs V1 [] [] = [])
    (r2 : ran (runP P et cfg f (partOf P f (k + 1) n) S1) L2 V2 = true) (d2 : defs V2 [] [] = [])
    (J I : Env → Prop) (μ : Env → Nat)
    (hJ : ∀ ρ, J ρ → ρ.et = et ∧ HOK P ρ cfg.sum) (hI : ∀ ρ, I ρ → ρ.et = et ∧ HOK P ρ cfg.sum)
    (sJ : ∀ ρ ρ', J ρ → Same ρ ρ' [] [] → J ρ') (sI : ∀ ρ ρ', I ρ → Same ρ ρ' [] [] → I ρ' ∧ μ ρ' = μ ρ)
    (self : (start P f args H nx).pat ⟨[], []⟩ (start P f args H nx) = true) (fit0 : ∀ ρ, J ρ → ∀ r ∈ (start P f args H nx).rs, r.fit ρ)
    (fit : ∀ ρ, I ρ → ∀ r ∈ S1.rs, r.fit ρ)
    (e0 : ∀ s ∈ L0, ∀ ρ, J ρ → saysL ρ V0 → andB ρ s.pc → (s.x = .ret ∧ s.S.rs = [] ∧ resultsOf P f s.S = some [.bool (.bc true)]) ∨ (s.x = .normal ∧ s.S = S1 ∧ I (ρ.sub s.σ)))
    (e1 : ∀ s ∈ L1, ∀ ρ, I ρ → saysL ρ V1 → andB ρ s.pc → (s.x = .normal ∧ s.S = S1 ∧ I (ρ.sub s.σ) ∧ μ (ρ.sub s.σ) < μ ρ) ∨ (s.x = .exit i ∧ s.S = S1 ∧ I (ρ.sub s.σ)))
    (e2 : ∀ s ∈ L2, ∀ ρ, I ρ → saysL ρ V2 → andB ρ s.pc → (s.x = .normal ∨ s.x = .ret) ∧ s.S.rs = [] ∧ resultsOf P f s.S = some [.bool (.bc true)])
    {ρ : Env} (hρ : J ρ) (b : Bd) (w : World) (hH : HRel ρ b (· < w.heap.size) w H (· < nx)) (ha : SV.okL ρ (· < nx) args) (hm : Mem ρ (· < w.heap.size) w) :
    Calls P f (SV.denL ρ b args).toArray w fun e w' => e = .returned (.bool true) ∧ Below w.heap.size w w' := by
  obtain ⟨ρ1, hs1, hv1⟩ := defs_env d0 ρ
  have hJ1 := sJ ρ ρ1 hρ hs1
  obtain ⟨c, hc⟩ : ∃ c, (partsOf P f)[k]? = some c := by
    unfold loopAt at hl
    split at hl
    · rename_i j x hx; exact ⟨_, hx⟩
    · cases hl
  refine calls_cut hf hb hc hn ?_
  have hstart := St.pat_ok (Reads.of (σ := ⟨[], []⟩) hs1) self (fit0 ρ1 hJ1) (start_ok (ρ := ρ) (b := b) (w0 := w) hf hH hm (Kept.refl _ _) (fun k hk => hk) ha)
  refine wpL_mono ?_ _ _ (runP_ok r0 (hJ ρ1 hJ1).1 (hJ ρ1 hJ1).2 hv1 hstart)
  rintro e a1 w1 ⟨hd1, s, hs, rfl, hpc, b1, _, hrel1⟩
  rcases e0 s hs ρ1 hJ1 (saysL_of hv1) (andB_of hpc) with ⟨hx, hrs, hret⟩ | ⟨hx, hS, hI1⟩
  · rw [hx]
    simp only [XK.ex, Exit.then]
    have hr := hrel1 (ρ1.sub s.σ) (Reads.of ⟨fun _ _ => rfl, fun _ _ => rfl, rfl, rfl, rfl, rfl, rfl, rfl, rfl, rfl, rfl⟩) (by rw [hrs]; intro r h; cases h)
    exact ret_ok hf hret (.inr rfl) hd1 hr fun _ => ⟨rfl, hr.below.below⟩
  · rw [hx]
    simp only [XK.ex, Exit.then]
    obtain ⟨ρ2, hs2, hv2⟩ := defs_env d1 (ρ1.sub s.σ)
    obtain ⟨hI2, hμ2⟩ := sI _ _ hI1 hs2
    have hr2 := hrel1 ρ2 (Reads.of hs2) (by rw [hS]; exact fit ρ2 hI2)
    rw [hS] at hr2
    refine wp_loopAt (J := fun n a w' => a.defers = [] ∧ ∃ ρ b', I ρ ∧ μ ρ = n ∧ allV ρ V1 ∧ Rel ρ b' (· < w.heap.size) w w' S1 a.tmps) hl (n := μ ρ2) ⟨hd1, ρ2, b1, hI2, rfl, hv2, hr2⟩ ?_ c hc
    rintro m a w' ⟨hd, ρ3, b3, hI3, rfl, hv3, hr3⟩
    refine wpL_mono ?_ _ _ (runP_ok r1 (hI ρ3 hI3).1 (hI ρ3 hI3).2 hv3 hr3)
    rintro e a4 w4 ⟨hd4, t, ht, rfl, hpc4, b4, _, hrel4⟩
    rcases e1 t ht ρ3 hI3 (saysL_of hv3) (andB_of hpc4) with ⟨hx, hS, hI4, hμ⟩ | ⟨hx, hS, hI4⟩
    · rw [hx]
      simp only [XK.ex]
      obtain ⟨ρ5, hs5, hv5⟩ := defs_env d1 (ρ3.sub t.σ)
      obtain ⟨hI5, hμ5⟩ := sI _ _ hI4 hs5
      have hr5 := hrel4 ρ5 (Reads.of hs5) (by rw [hS]; exact fit ρ5 hI5)
      rw [hS] at hr5
      exact ⟨μ ρ5, by rw [hμ5]; exact hμ, hd4.trans hd, ρ5, b4, hI5, rfl, hv5, hr5⟩
    · rw [hx]
      simp only [XK.ex, if_true, Exit.then]
      obtain ⟨ρ5, hs5, hv5⟩ := defs_env d2 (ρ3.sub t.σ)
      obtain ⟨hI5, _⟩ := sI _ _ hI4 hs5
      have hr5 := hrel4 ρ5 (Reads.of hs5) (by rw [hS]; exact fit ρ5 hI5)
      rw [hS] at hr5
      refine wpL_mono ?_ _ _ (runP_ok r2 (hI ρ5 hI5).1 (hI ρ5 hI5).2 hv5 hr5)
      rintro e a6 w6 ⟨hd6, u, hu, rfl, hpc6, b6, _, hrel6⟩
      obtain ⟨hx6, hrs6, hret6⟩ := e2 u hu ρ5 hI5 (saysL_of hv5) (andB_of hpc6)
      have hr6 := hrel6 (ρ5.sub u.σ) (Reads.of ⟨fun _ _ => rfl, fun _ _ => rfl, rfl, rfl, rfl, rfl, rfl, rfl, rfl, rfl, rfl⟩) (by rw [hrs6]; intro r h; cases h)
      refine ret_ok hf hret6 ?_ (hd6.trans (hd4.trans hd)) hr6 fun _ => ⟨rfl, hr6.below.below⟩
      rcases hx6 with h | h <;> rw [h]
      · exact .inl rfl
      · exact .inr rfl
/-- A function whose body holds one loop: what it hands back. -/
theorem loop1_ret {P : Program} {et : TypeId} {cfg : Cfg} {f : FuncId} {fn : Func} (hf : P.funcs[f]? = some fn) (hb : fn.body.isSome = true) {k i n : Nat} (hn : (partsOf P f).length ≤ n) (hl : loopAt P f k i = true)
    {args : List SV} {H : List (Nat × HEnt)} {nx : Nat} {S1 : St} {L0 L1 L2 : List LS} {V0 V1 V2 W0 W1 W2 : List VC}
    (r0 : ran (runP P et cfg f (partOf P f 0 k) (start P f args H nx)) L0 V0 = true) (d0 : defs V0 [] [] = W0) (n0 : W0.all VC.isNo = true)
    (r1 : ran (runP P et cfg f (loopOf P f k) S1) L1 V1 = true) (d1 : defs V1 [] [] = W1) (n1 : W1.all VC.isNo = true)
    (r2 : ran (runP P et cfg f (partOf P f (k + 1) n) S1) L2 V2 = true) (d2 : defs V2 [] [] = W2) (n2 : W2.all VC.isNo = true)
    {V : Value} (J I I2 : Env → Prop) (μ : Env → Nat)
    (hJ : ∀ ρ, J ρ → ρ.et = et ∧ HOK P ρ cfg.sum) (hI : ∀ ρ, I ρ → ρ.et = et ∧ HOK P ρ cfg.sum)
    (sJ : ∀ ρ ρ', J ρ → Same ρ ρ' [] [] → J ρ') (sI : ∀ ρ ρ', I ρ → Same ρ ρ' [] [] → I ρ' ∧ μ ρ' = μ ρ) (i21 : ∀ ρ, I2 ρ → I ρ) (sI2 : ∀ ρ ρ', I2 ρ → Same ρ ρ' [] [] → I2 ρ')
    (self : (start P f args H nx).pat ⟨[], []⟩ (start P f args H nx) = true) (fit0 : ∀ ρ, J ρ → ∀ r ∈ (start P f args H nx).rs, r.fit ρ)
    (fit : ∀ ρ, I ρ → ∀ r ∈ S1.rs, r.fit ρ)
    (z0 : ∀ ρ, J ρ → saysL ρ V0 → andV ρ W0) (z1 : ∀ ρ, I ρ → saysL ρ V1 → andV ρ W1) (z2 : ∀ ρ, I2 ρ → saysL ρ V2 → andV ρ W2)
    (e0 : ∀ s ∈ L0, ∀ ρ, J ρ → saysL ρ V0 → andB ρ s.pc → (s.x = .ret ∧ (∀ r ∈ s.S.rs, r.fit (ρ.sub s.σ)) ∧ ∃ rs, resultsOf P f s.S = some rs ∧ ∀ b, (oneOrTup rs).den (ρ.sub s.σ) b = V) ∨ (s.x = .normal ∧ s.S = S1 ∧ I (ρ.sub s.σ)))
    (e1 : ∀ s ∈ L1, ∀ ρ, I ρ → saysL ρ V1 → andB ρ s.pc → (s.x = .normal ∧ s.S = S1 ∧ I (ρ.sub s.σ) ∧ μ (ρ.sub s.σ) < μ ρ) ∨ (s.x = .exit i ∧ s.S = S1 ∧ I2 (ρ.sub s.σ)) ∨ (s.x = .ret ∧ (∀ r ∈ s.S.rs, r.fit (ρ.sub s.σ)) ∧ ∃ rs, resultsOf P f s.S = some rs ∧ ∀ b, (oneOrTup rs).den (ρ.sub s.σ) b = V))
    (e2 : ∀ s ∈ L2, ∀ ρ, I2 ρ → saysL ρ V2 → andB ρ s.pc → (s.x = .normal ∨ s.x = .ret) ∧ (∀ r ∈ s.S.rs, r.fit (ρ.sub s.σ)) ∧ ∃ rs, resultsOf P f s.S = some rs ∧ ∀ b, (oneOrTup rs).den (ρ.sub s.σ) b = V)
    {ρ : Env} (hρ : J ρ) (b : Bd) (w : World) (hH : HRel ρ b (· < w.heap.size) w H (· < nx)) (ha : SV.okL ρ (· < nx) args) (hm : Mem ρ (· < w.heap.size) w) :
    Calls P f (SV.denL ρ b args).toArray w fun e w' => e = .returned V ∧ Below w.heap.size w w' := by
  obtain ⟨ρ1, hs1, hy1, hx1⟩ := defs_left d0 n0 ρ
  have hJ1 := sJ ρ ρ1 hρ hs1
  have hv1 := hx1 (allV_of (z0 ρ1 hJ1 hy1))
  obtain ⟨c, hc⟩ : ∃ c, (partsOf P f)[k]? = some c := by
    unfold loopAt at hl
    split at hl
    · rename_i j x hx; exact ⟨_, hx⟩
    · cases hl
  refine calls_cut hf hb hc hn ?_
  have hstart := St.pat_ok (Reads.of (σ := ⟨[], []⟩) hs1) self (fit0 ρ1 hJ1) (start_ok (ρ := ρ) (b := b) (w0 := w) hf hH hm (Kept.refl _ _) (fun k hk => hk) ha)
  refine wpL_mono ?_ _ _ (runP_ok r0 (hJ ρ1 hJ1).1 (hJ ρ1 hJ1).2 hv1 hstart)
  rintro e a1 w1 ⟨hd1, s, hs, rfl, hpc, b1, _, hrel1⟩
  rcases e0 s hs ρ1 hJ1 (saysL_of hv1) (andB_of hpc) with ⟨hx, hrs, rs, hret, hval⟩ | ⟨hx, hS, hI1⟩
  · rw [hx]
    simp only [XK.ex, Exit.then]
    have hr := hrel1 (ρ1.sub s.σ) (Reads.of ⟨fun _ _ => rfl, fun _ _ => rfl, rfl, rfl, rfl, rfl, rfl, rfl, rfl, rfl, rfl⟩) hrs
    exact ret_ok hf hret (.inr rfl) hd1 hr fun _ => ⟨by rw [hval], hr.below.below⟩
  · rw [hx]
    simp only [XK.ex, Exit.then]
    obtain ⟨ρ2, hs2, hy2, hx2⟩ := defs_left d1 n1 (ρ1.sub s.σ)
    obtain ⟨hI2, hμ2⟩ := sI _ _ hI1 hs2
    have hv2 := hx2 (allV_of (z1 ρ2 hI2 hy2))
    have hr2 := hrel1 ρ2 (Reads.of hs2) (by rw [hS]; exact fit ρ2 hI2)
    rw [hS] at hr2
    refine wp_loopAt (J := fun n a w' => a.defers = [] ∧ ∃ ρ b', I ρ ∧ μ ρ = n ∧ allV ρ V1 ∧ Rel ρ b' (· < w.heap.size) w w' S1 a.tmps) hl (n := μ ρ2) ⟨hd1, ρ2, b1, hI2, rfl, hv2, hr2⟩ ?_ c hc
    rintro m a w' ⟨hd, ρ3, b3, hI3, rfl, hv3, hr3⟩
    refine wpL_mono ?_ _ _ (runP_ok r1 (hI ρ3 hI3).1 (hI ρ3 hI3).2 hv3 hr3)
    rintro e a4 w4 ⟨hd4, t, ht, rfl, hpc4, b4, _, hrel4⟩
    rcases e1 t ht ρ3 hI3 (saysL_of hv3) (andB_of hpc4) with ⟨hx, hS, hI4, hμ⟩ | ⟨hx, hS, hI4⟩ | ⟨hx, hrs, rs, hret, hval⟩
    · rw [hx]
      simp only [XK.ex]
      obtain ⟨ρ5, hs5, hy5, hx5⟩ := defs_left d1 n1 (ρ3.sub t.σ)
      obtain ⟨hI5, hμ5⟩ := sI _ _ hI4 hs5
      have hv5 := hx5 (allV_of (z1 ρ5 hI5 hy5))
      have hr5 := hrel4 ρ5 (Reads.of hs5) (by rw [hS]; exact fit ρ5 hI5)
      rw [hS] at hr5
      exact ⟨μ ρ5, by rw [hμ5]; exact hμ, hd4.trans hd, ρ5, b4, hI5, rfl, hv5, hr5⟩
    · rw [hx]
      simp only [XK.ex, if_true, Exit.then]
      obtain ⟨ρ5, hs5, hy5, hx5⟩ := defs_left d2 n2 (ρ3.sub t.σ)
      have hI25 := sI2 _ _ hI4 hs5
      have hv5 := hx5 (allV_of (z2 ρ5 hI25 hy5))
      have hI5 := i21 _ hI25
      have hr5 := hrel4 ρ5 (Reads.of hs5) (by rw [hS]; exact fit ρ5 hI5)
      rw [hS] at hr5
      refine wpL_mono ?_ _ _ (runP_ok r2 (hI ρ5 hI5).1 (hI ρ5 hI5).2 hv5 hr5)
      rintro e a6 w6 ⟨hd6, u, hu, rfl, hpc6, b6, _, hrel6⟩
      obtain ⟨hx6, hrs6, rs, hret6, hval6⟩ := e2 u hu ρ5 hI25 (saysL_of hv5) (andB_of hpc6)
      have hr6 := hrel6 (ρ5.sub u.σ) (Reads.of ⟨fun _ _ => rfl, fun _ _ => rfl, rfl, rfl, rfl, rfl, rfl, rfl, rfl, rfl, rfl⟩) hrs6
      refine ret_ok hf hret6 ?_ (hd6.trans (hd4.trans hd)) hr6 fun _ => ⟨by rw [hval6], hr6.below.below⟩
      rcases hx6 with h | h <;> rw [h]
      · exact .inl rfl
      · exact .inr rfl
    · rw [hx]
      simp only [XK.ex, Exit.then]
      have hr4 := hrel4 (ρ3.sub t.σ) (Reads.of ⟨fun _ _ => rfl, fun _ _ => rfl, rfl, rfl, rfl, rfl, rfl, rfl, rfl, rfl, rfl⟩) hrs
      exact ret_ok hf hret (.inr rfl) (hd4.trans hd) hr4 fun _ => ⟨by rw [hval], hr4.below.below⟩
/-- A function without a loop (or one whose loops are run out): what it hands back. -/
theorem piece_ret {P : Program} {et : TypeId} {cfg : Cfg} {f : FuncId} {fn : Func} (hf : P.funcs[f]? = some fn) (hb : fn.body.isSome = true)
    {args : List SV} {H : List (Nat × HEnt)} {nx : Nat} {L0 : List LS} {V0 W0 : List VC}
    (r0 : ran (runP P et cfg f (partsOf P f) (start P f args H nx)) L0 V0 = true) (d0 : defs V0 [] [] = W0) (n0 : W0.all VC.isNo = true)
    {V : Value} (J : Env → Prop)
    (hJ : ∀ ρ, J ρ → ρ.et = et ∧ HOK P ρ cfg.sum) (sJ : ∀ ρ ρ', J ρ → Same ρ ρ' [] [] → J ρ')
    (self : (start P f args H nx).pat ⟨[], []⟩ (start P f args H nx) = true) (fit0 : ∀ ρ, J ρ → ∀ r ∈ (start P f args H nx).rs, r.fit ρ)
    (z0 : ∀ ρ, J ρ → saysL ρ V0 → andV ρ W0)
    (e0 : ∀ s ∈ L0, ∀ ρ, J ρ → saysL ρ V0 → andB ρ s.pc → (s.x = .normal ∨ s.x = .ret) ∧ (∀ r ∈ s.S.rs, r.fit (ρ.sub s.σ)) ∧ ∃ rs, resultsOf P f s.S = some rs ∧ ∀ b, (oneOrTup rs).den (ρ.sub s.σ) b = V)
    {ρ : Env} (hρ : J ρ) (b : Bd) (w : World) (hH : HRel ρ b (· < w.heap.size) w H (· < nx)) (ha : SV.okL ρ (· < nx) args) (hm : Mem ρ (· < w.heap.size) w) :
    Calls P f (SV.denL ρ b args).toArray w fun e w' => e = .returned V ∧ Below w.heap.size w w' := by
  obtain ⟨ρ1, hs1, hy1, hx1⟩ := defs_left d0 n0 ρ
  have hJ1 := sJ ρ ρ1 hρ hs1
  have hv1 := hx1 (allV_of (z0 ρ1 hJ1 hy1))
  refine calls_whole hf hb ?_
  have hstart := St.pat_ok (Reads.of (σ := ⟨[], []⟩) hs1) self (fit0 ρ1 hJ1) (start_ok (ρ := ρ) (b := b) (w0 := w) hf hH hm (Kept.refl _ _) (fun k hk => hk) ha)
  refine wpL_mono ?_ _ _ (runP_ok r0 (hJ ρ1 hJ1).1 (hJ ρ1 hJ1).2 hv1 hstart)
  rintro e a1 w1 ⟨hd1, s, hs, rfl, hpc, b1, _, hrel1⟩
  obtain ⟨hx, hrs, rs, hret, hval⟩ := e0 s hs ρ1 hJ1 hy1 (andB_of hpc)
  have hr := hrel1 (ρ1.sub s.σ) (Reads.of ⟨fun _ _ => rfl, fun _ _ => rfl, rfl, rfl, rfl, rfl, rfl, rfl, rfl, rfl, rfl⟩) hrs
  refine ret_ok hf hret ?_ hd1 hr fun _ => ⟨by rw [hval], hr.below.below⟩
  rcases hx with h | h <;> rw [h]
  · exact .inl rfl
  · exact .inr rfl
/-- Contracts of calls that only compute, by their arguments; the value, and what is to be shown for it. -/
def constSum (k : FuncId) (v : SV) : FuncId → List SV → Option (List E × SV) := fun f args => if Nat.beq f k && args.isEmpty then some ([], v) else none
theorem constSum_ok {P : Program} {ρ : Env} {k : FuncId} {v : SV} {val : Value} (hd : ∀ b, v.den ρ b = val) (ho : ∀ N, v.ok ρ N) (h : ∀ w, Calls P k #[] w fun e w' => e = .returned val ∧ Below w.heap.size w w') : PSOK P ρ (constSum k v) := by
  intro f args gs u hu _ b w N _
  unfold constSum at hu
  split at hu
  · rename_i hc
    cases hu
    rw [Bool.and_eq_true] at hc
    have e1 := Nat.eq_of_beq_eq_true hc.1
    have e2 : args = [] := by simpa using hc.2
    subst e1 e2
    refine (h w).mono ?_
    rintro e w' ⟨h1, h2⟩
    exact ⟨by rw [h1, hd b], ho N, h2⟩
  · cases hu
end Go.Proofs.Ytdfpenjhpemokaa.Sx
