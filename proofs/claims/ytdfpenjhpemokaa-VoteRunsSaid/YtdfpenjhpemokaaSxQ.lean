/-
  A verified symbolic executor, part 17: functions that are gone into; contracts.
-/
import Derived.Test.YtdfpenjhpemokaaSxP
set_option linter.unusedVariables false
set_option linter.unusedSimpArgs false
namespace Go.Proofs.Ytdfpenjhpemokaa.Sx
open Go.RowKit (Below)

def T.mapO {α β : Type} (f : α → Option β) : T α → Option (T β)
  | .leaf x => (f x).map .leaf
  | .node c t u => match T.mapO f t, T.mapO f u with
    | some t', some u' => some (.node c t' u')
    | _, _ => none
theorem T.mapO_at {α β : Type} {f : α → Option β} {ρ : Env} : ∀ {t : T α} {r : T β}, T.mapO f t = some r → f (t.at ρ) = some (r.at ρ) := by
  intro t
  induction t with
  | leaf x =>
    intro r h
    simp only [T.mapO] at h
    rw [Option.map_eq_some_iff] at h
    obtain ⟨y, hy, rfl⟩ := h
    exact hy
  | node c t u iht ihu =>
    intro r h
    simp only [T.mapO] at h
    split at h
    · rename_i t' u' h1 h2
      cases h
      simp only [T.at]
      split
      · exact iht h1
      · exact ihu h2
    · cases h

/-- What is worth keeping of the blocks behind a call. -/
def prune (nx : Nat) (v : SV) (H : List (Nat × HEnt)) : List (Nat × HEnt) :=
  let old := H.filter fun x => decide (x.1 < nx)
  let keep := reach H 1000 (v.names ++ old.flatMap fun x => SV.namesL x.2.blk.cells) []
  restrict (fun n e => if decide (n < nx) || keep.contains n then some e else none) H H
theorem HRel.prune {ρ : Env} {b : Bd} {base : Nat → Prop} {w : World} {H : List (Nat × HEnt)} {N : Nat → Prop} (h : HRel ρ b base w H N) (nx : Nat) (v : SV) : HRel ρ b base w (prune nx v H) N :=
  h.part fun n e hm => by
    obtain ⟨x, h1, h2⟩ := restrict_mem hm
    split at h2
    · cases h2; exact ⟨_, h1, rfl, id⟩
    · cases h2

/-- Results that meet. -/
def T.normC (et : TypeId) (n0 : Nat) : T CR → T CR
  | .leaf l => .leaf l
  | .node c t u =>
    match T.normC et n0 t, T.normC et n0 u with
    | .leaf l, .leaf m => (match mrg2 et c l.v m.v, mrgH et c n0 l.heap m.heap l.heap with
        | some v, some H => .leaf ⟨v, H, max l.next m.next⟩
        | _, _ => .node c (.leaf l) (.leaf m))
    | t', u' => .node c t' u'
/-- What stands behind a call. -/
def CRel (ρ : Env) (b : Bd) (base : Nat → Prop) (w : World) (c : CR) (val : Value) : Prop := c.v.den ρ b = val ∧ c.v.ok ρ (· < c.next) ∧ HRel ρ b base w c.heap (· < c.next)
theorem T.normC_ok {et : TypeId} {ρ : Env} (he : ρ.et = et) {n0 : Nat} {b : Bd} {base : Nat → Prop} {w : World} {val : Value} : ∀ (t : T CR), CRel ρ b base w (t.at ρ) val → CRel ρ b base w ((T.normC et n0 t).at ρ) val ∧ (t.at ρ).next ≤ ((T.normC et n0 t).at ρ).next := by
  intro t
  induction t with
  | leaf l => exact fun h => ⟨h, Nat.le_refl _⟩
  | node c t u iht ihu =>
    intro h
    have key : CRel ρ b base w (if c.b ρ = true then (T.normC et n0 t).at ρ else (T.normC et n0 u).at ρ) val ∧ ((T.node c t u).at ρ).next ≤ (if c.b ρ = true then (T.normC et n0 t).at ρ else (T.normC et n0 u).at ρ).next := by
      simp only [T.at] at h ⊢
      by_cases hc : c.b ρ = true
      · simp only [hc, if_true] at h ⊢; exact iht h
      · simp only [hc] at h ⊢; exact ihu h
    simp only [T.normC]
    split
    · rename_i l m hl hm
      rw [hl, hm] at key
      simp only [T.at] at key
      split
      · rename_i v H hv hH
        simp only [T.at]
        by_cases hc : c.b ρ = true
        · simp only [hc, if_true] at key ⊢
          obtain ⟨⟨k1, k2, k3⟩, k4⟩ := key
          have e1 := mrg2_t he hc hv (b := b) k2
          have hN : ∀ n, n < l.next → n < max l.next m.next := fun n hn => Nat.lt_of_lt_of_le hn (Nat.le_max_left _ _)
          exact ⟨⟨e1.1.trans k1, SV.ok_mono hN _ e1.2, mrgH_t he hc hH hN k3⟩, Nat.le_trans k4 (Nat.le_max_left _ _)⟩
        · have hc' : c.b ρ = false := by simpa using hc
          simp only [hc', Bool.false_eq_true, if_false] at key ⊢
          obtain ⟨⟨k1, k2, k3⟩, k4⟩ := key
          have e1 := mrg2_f he hc' hv (b := b) k2
          have hN : ∀ n, n < m.next → n < max l.next m.next := fun n hn => Nat.lt_of_lt_of_le hn (Nat.le_max_right _ _)
          exact ⟨⟨e1.1.trans k1, SV.ok_mono hN _ e1.2, mrgH_f he hc' hH hN k3⟩, Nat.le_trans k4 (Nat.le_max_right _ _)⟩
      · exact key
    · exact key

def T.nmC (big : Nat) : T CR → T CR × List VC
  | .leaf l => (.leaf ⟨l.v.nm big, heapNm big l.heap, l.next⟩, l.v.nmc big ++ heapNmc big l.heap)
  | .node c t u => (.node c (T.nmC big t).1 (T.nmC big u).1, (T.nmC big t).2 ++ (T.nmC big u).2)
theorem T.nmC_ok {ρ : Env} {big : Nat} {b : Bd} {base : Nat → Prop} {w : World} {val : Value} : ∀ (t : T CR), allV ρ (T.nmC big t).2 → CRel ρ b base w (t.at ρ) val → CRel ρ b base w ((T.nmC big t).1.at ρ) val ∧ (t.at ρ).next = ((T.nmC big t).1.at ρ).next := by
  intro t
  induction t with
  | leaf l =>
    rintro hv ⟨h1, h2, h3⟩
    rw [T.nmC, allV_app] at hv
    have := SV.nm_ok b l.v hv.1 h2
    exact ⟨⟨this.1.trans h1, this.2, h3.nm hv.2⟩, rfl⟩
  | node c t u iht ihu =>
    intro hv h
    rw [T.nmC, allV_app] at hv
    simp only [T.nmC, T.at] at h ⊢
    by_cases hc : c.b ρ = true
    · simp only [hc, if_true] at h ⊢; exact iht hv.1 h
    · simp only [hc] at h ⊢; exact ihu hv.2 h
def T.nrmC (et : TypeId) (big n0 : Nat) (t : T CR) (v : List VC) : T CR × List VC :=
  match T.nmC big (T.normC et n0 t) with
  | (t', v') => (t', v ++ v')
theorem T.nrmC_ok {et : TypeId} {ρ : Env} (he : ρ.et = et) {big n0 : Nat} {b : Bd} {base : Nat → Prop} {w : World} {val : Value} (t : T CR) {v : List VC} (hv : allV ρ (T.nrmC et big n0 t v).2) (h : CRel ρ b base w (t.at ρ) val) : allV ρ v ∧ CRel ρ b base w ((T.nrmC et big n0 t v).1.at ρ) val ∧ (t.at ρ).next ≤ ((T.nrmC et big n0 t v).1.at ρ).next := by
  rw [T.nrmC, allV_app] at hv
  obtain ⟨h1, h2⟩ := T.normC_ok he (n0 := n0) t h
  obtain ⟨h3, h4⟩ := T.nmC_ok (T.normC et n0 t) hv.2 h1
  exact ⟨hv.1, h3, by rw [h4] at h2; exact h2⟩

/-- What is known ahead: contracts of functions; how each function is gone into. -/
structure Cfg where
  sum : Handler
  fc : FuncId → Fc
/-- Contracts that leave what there is as it is: what is to be shown, the value. -/
def plainSum (f : FuncId → List SV → Option (List E × SV)) : Handler := fun pc k args H nx =>
  match f k args with
  | some (gs, v) => some (.leaf ⟨v, H, nx⟩, gs.map fun g => ⟨pc, g⟩)
  | none => none
/-- Such a contract holds. -/
def PSOK (P : Program) (ρ : Env) (f : FuncId → List SV → Option (List E × SV)) : Prop :=
  ∀ k args gs v, f k args = some (gs, v) → (∀ g ∈ gs, g.b ρ = true) → ∀ b w N, SV.okL ρ N args →
    Calls P k (SV.denL ρ b args).toArray w fun e w' => e = .returned (v.den ρ b) ∧ v.ok ρ N ∧ Below w.heap.size w w'
theorem plainSum_ok {P : Program} {ρ : Env} {f : FuncId → List SV → Option (List E × SV)} (hs : PSOK P ρ f) : HOK P ρ (plainSum f) := by
  intro pc k args H nx r vs h hpc hv b base w0 w hH hmem hbel hbase hargs
  unfold plainSum at h
  split at h
  · rename_i gs v hsum
    cases h
    have hg : ∀ g ∈ gs, g.b ρ = true := fun g hg => hv ⟨pc, g⟩ (List.mem_map.2 ⟨g, hg, rfl⟩) hpc
    refine (hs k args gs v hsum hg b w _ hargs).mono ?_
    rintro e w' ⟨h1, h2, h3⟩
    exact ⟨b, h1, Agree.refl b _, hH.mono (Agree.refl b _) (fun _ h => h) (fun k hk => h3.block k hk) hbase, h2, hbel.trans ((Kept.of h3).mono hbase), fun k hk => Nat.lt_of_lt_of_le (hbase k hk) h3.size, Nat.le_refl _⟩
  · cases h
def noSum : Handler := fun _ _ _ _ _ => none
theorem noSum_ok (P : Program) (ρ : Env) : HOK P ρ noSum := by
  intro pc k args H nx r vs h
  cases h
/-- One contract or another. -/
def orSum (f g : Handler) : Handler := fun pc k args H nx => match f pc k args H nx with
  | some r => some r
  | none => g pc k args H nx
theorem orSum_ok {P : Program} {ρ : Env} {f g : Handler} (hf : HOK P ρ f) (hg : HOK P ρ g) : HOK P ρ (orSum f g) := by
  intro pc k args H nx r vs h
  unfold orSum at h
  split at h
  · rename_i x hx
    cases h
    exact hf pc k args H nx _ _ hx
  · exact hg pc k args H nx _ _ h
def argsT (l : List SV) : List (Nat × Ent) := l.zipIdx.map fun x => (x.2, ⟨[], x.1⟩)
theorem argsT_find (l : List SV) (k i : Nat) (e : Ent) (h : find ((l.zipIdx k).map fun x => (x.2, (⟨[], x.1⟩ : Ent))) i = some e) : ∃ v, k ≤ i ∧ l[i - k]? = some v ∧ e = ⟨[], v⟩ := by
  induction l generalizing k with
  | nil => cases h
  | cons a l ih =>
    simp only [List.zipIdx_cons, List.map_cons, find] at h
    split at h
    · rename_i hk
      cases h
      subst hk
      exact ⟨a, Nat.le_refl _, by simp, rfl⟩
    · rename_i hk
      obtain ⟨v, h1, h2, h3⟩ := ih (k + 1) h
      refine ⟨v, by omega, ?_, h3⟩
      have : i - k = (i - (k + 1)) + 1 := by omega
      rw [this]
      simpa using h2
/-- A function's result of a way's end. -/
def retOf (P : Program) (fn : Func) (nx : Nat) (l : Lf) : Option CR :=
  match l.x with
  | .exit _ => none
  | _ => match sResults P l.st fn.results.toList with
    | some r => some ⟨oneOrTup r, prune nx (oneOrTup r) (visH l.st.heap), l.st.next⟩
    | none => none
/-- A call: by its contract, or gone into. -/
def callN (P : Program) (et : TypeId) (cfg : Cfg) (drw : Handler → Array Oper → List E → St → Option (T St × List VC)) : Nat → Handler
  | 0 => fun _ _ _ _ _ => none
  | d + 1 => fun pc f args H nx =>
    match cfg.sum pc f args H nx with
    | some r => some r
    | none =>
      match P.funcs[f]? with
      | some fn => match fn.body with
        | some c =>
          match exec P et (callN P et cfg drw d) (drw (callN P et cfg drw d)) (cfg.fc f) c pc ⟨argsT args, H, nx, args.length + (fn.ntmps - args.length)⟩ with
          | some (t, vs) => match T.mapO (retOf P fn nx) t with
            | some r => some (T.nrmC et (cfg.fc f).big nx r vs)
            | none => none
          | none => none
        | none => none
      | none => none
theorem callN_ok {P : Program} {et : TypeId} {cfg : Cfg} {drw : Handler → Array Oper → List E → St → Option (T St × List VC)} {ρ : Env} (he : ρ.et = et) (hs : HOK P ρ cfg.sum) (hd : ∀ h, HOK P ρ h → DOK P ρ (drw h)) : ∀ d, HOK P ρ (callN P et cfg drw d) := by
  intro d
  induction d with
  | zero => intro pc f args H nx r vs h; cases h
  | succ d ih =>
    intro pc f args H nx r vs h hpc hv b base w0 w hH hmem hbel hbase hargs
    simp only [callN] at h
    split at h
    · rename_i x hx
      cases h
      exact hs pc f args H nx r vs hx hpc hv b base w0 w hH hmem hbel hbase hargs
    · split at h
      · rename_i fn hfn
        split at h
        · rename_i c hc
          split at h
          · rename_i t v1 hex
            split at h
            · rename_i r' hr'
              have h' := Option.some.inj h
              obtain rfl : (T.nrmC et (cfg.fc f).big nx r' v1).1 = r := by rw [h']
              obtain rfl : (T.nrmC et (cfg.fc f).big nx r' v1).2 = vs := by rw [h']
              clear h h'
              have hv0 := hv
              have hv : allV ρ v1 := by rw [T.nrmC, allV_app] at hv; exact hv.1
              refine calls_of_wp hfn hc ?_
              have hr0 : Rel ρ b base w0 w ⟨argsT args, H, nx, args.length + (fn.ntmps - args.length)⟩ ((SV.denL ρ b args).toArray ++ Array.replicate (fn.ntmps - (SV.denL ρ b args).toArray.size) undef) := by
                refine ⟨hH, fun i e hf => ?_, hbel, hbase, by simp [denL_length], hmem⟩
                obtain ⟨v, _, h2, rfl⟩ := argsT_find args 0 i e hf
                simp only [Nat.sub_zero] at h2
                have hl := (List.getElem?_eq_some_iff.1 h2).1
                refine ⟨fun _ => ⟨?_, okL_get hargs h2⟩, fun hn => absurd (allB_nil ρ) hn⟩
                rw [Array.getElem?_append_left (by simpa [denL_length] using hl)]
                simp [denL_get, h2]
              refine wp_mono (exec_ok he ih (hd _ ih) c pc _ _ _ hex hpc hv b base w0 w ⟨_, []⟩ hr0) ?_
              rintro e a' w' ⟨g1, g2, b', g3, g4, g5⟩
              have hret := T.mapO_at (ρ := ρ) hr'
              have hx : e = .normal ∨ e = .ret := by
                unfold retOf at hret
                cases hx : (t.at ρ).x with
                | normal => rw [hx] at g1; exact .inl g1
                | exit id => rw [hx] at hret; cases hret
                | ret => rw [hx] at g1; exact .inr g1
              have hres : ∃ rs, sResults P (t.at ρ).st fn.results.toList = some rs ∧ r'.at ρ = ⟨oneOrTup rs, prune nx (oneOrTup rs) (visH (t.at ρ).st.heap), (t.at ρ).st.next⟩ := by
                unfold retOf at hret
                split at hret
                · cases hret
                · split at hret
                  · rename_i rs hrs
                    exact ⟨rs, hrs, (Option.some.inj hret).symm⟩
                  · cases hret
              obtain ⟨rs, hrs, hcr⟩ := hres
              obtain ⟨r1, r2⟩ := run_results g4 hrs
              have hcrel : CRel ρ b' base w' (r'.at ρ) ((oneOrTup rs).den ρ b') := by
                rw [hcr]
                exact ⟨rfl, r2, g4.heap.vis.prune nx _⟩
              obtain ⟨_, ⟨n1, n2, n3⟩, n4⟩ := T.nrmC_ok he (n0 := nx) r' hv0 hcrel
              have hnx : nx ≤ (r'.at ρ).next := by rw [hcr]; exact g5
              rcases hx with rfl | rfl
              · exact ⟨g2, _, r1, b', by rw [n1], g3, n3, n2, g4.below, g4.base, Nat.le_trans hnx n4⟩
              · exact ⟨g2, _, r1, b', by rw [n1], g3, n3, n2, g4.below, g4.base, Nat.le_trans hnx n4⟩
            · cases h
          · cases h
        · cases h
      · cases h
end Go.Proofs.Ytdfpenjhpemokaa.Sx
