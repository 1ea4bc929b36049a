/-
  Functions that hand back a list that they made: what is said of it; contracts of them. (Written by wip/dev/sx/mknew.py.)
-/
import Derived.Test.YtdfpenjhpemokaaSxStd
set_option linter.unusedVariables false
set_option linter.unusedSimpArgs false
namespace Go.Proofs.Ytdfpenjhpemokaa.Sx
open Go.RowKit
theorem loop1_new {P : Program} {et : TypeId} {cfg : Cfg} {f : FuncId} {fn : Func} (hf : P.funcs[f]? = some fn) (hb : fn.body.isSome = true) {k i n : Nat} (hn : (partsOf P f).length ≤ n) (hl : loopAt P f k i = true)
    {args : List SV} {H : List (Nat × HEnt)} {nx : Nat} {S1 : St} {L0 L1 L2 : List LS} {V0 V1 V2 W0 W1 W2 : List VC}
    (r0 : ran (runP P et cfg f (partOf P f 0 k) (start P f args H nx)) L0 V0 = true) (d0 : defs V0 [] [] = W0) (n0 : W0.all VC.isNo = true)
    (r1 : ran (runP P et cfg f (loopOf P f k) S1) L1 V1 = true) (d1 : defs V1 [] [] = W1) (n1 : W1.all VC.isNo = true)
    (r2 : ran (runP P et cfg f (partOf P f (k + 1) n) S1) L2 V2 = true) (d2 : defs V2 [] [] = W2) (n2 : W2.all VC.isNo = true)
    (w : World) {R : Value → World → Prop} (J I I2 : Env → Prop) (μ : Env → Nat)
    (hJ : ∀ ρ, J ρ → ρ.et = et ∧ HOK P ρ cfg.sum) (hI : ∀ ρ, I ρ → ρ.et = et ∧ HOK P ρ cfg.sum)
    (sJ : ∀ ρ ρ', J ρ → Same ρ ρ' [] [] → J ρ') (sI : ∀ ρ ρ', I ρ → Same ρ ρ' [] [] → I ρ' ∧ μ ρ' = μ ρ) (i21 : ∀ ρ, I2 ρ → I ρ) (sI2 : ∀ ρ ρ', I2 ρ → Same ρ ρ' [] [] → I2 ρ')
    (self : (start P f args H nx).pat ⟨[], []⟩ (start P f args H nx) = true) (fit0 : ∀ ρ, J ρ → ∀ r ∈ (start P f args H nx).rs, r.fit ρ)
    (fit : ∀ ρ, I ρ → ∀ r ∈ S1.rs, r.fit ρ)
    (z0 : ∀ ρ, J ρ → saysL ρ V0 → andV ρ W0) (z1 : ∀ ρ, I ρ → saysL ρ V1 → andV ρ W1) (z2 : ∀ ρ, I2 ρ → saysL ρ V2 → andV ρ W2)
    (e0 : ∀ s ∈ L0, ∀ ρ, J ρ → saysL ρ V0 → andB ρ s.pc → (s.x = .ret ∧ (∀ r ∈ s.S.rs, r.fit (ρ.sub s.σ)) ∧ ∃ rs, resultsOf P f s.S = some rs ∧ ∀ b w' tm, Rel (ρ.sub s.σ) b (· < w.heap.size) w w' s.S tm → R ((oneOrTup rs).den (ρ.sub s.σ) b) w') ∨ (s.x = .normal ∧ s.S = S1 ∧ I (ρ.sub s.σ)))
    (e1 : ∀ s ∈ L1, ∀ ρ, I ρ → saysL ρ V1 → andB ρ s.pc → (s.x = .normal ∧ s.S = S1 ∧ I (ρ.sub s.σ) ∧ μ (ρ.sub s.σ) < μ ρ) ∨ (s.x = .exit i ∧ s.S = S1 ∧ I2 (ρ.sub s.σ)) ∨ (s.x = .ret ∧ (∀ r ∈ s.S.rs, r.fit (ρ.sub s.σ)) ∧ ∃ rs, resultsOf P f s.S = some rs ∧ ∀ b w' tm, Rel (ρ.sub s.σ) b (· < w.heap.size) w w' s.S tm → R ((oneOrTup rs).den (ρ.sub s.σ) b) w'))
    (e2 : ∀ s ∈ L2, ∀ ρ, I2 ρ → saysL ρ V2 → andB ρ s.pc → (s.x = .normal ∨ s.x = .ret) ∧ (∀ r ∈ s.S.rs, r.fit (ρ.sub s.σ)) ∧ ∃ rs, resultsOf P f s.S = some rs ∧ ∀ b w' tm, Rel (ρ.sub s.σ) b (· < w.heap.size) w w' s.S tm → R ((oneOrTup rs).den (ρ.sub s.σ) b) w')
    {ρ : Env} (hρ : J ρ) (b : Bd) (hH : HRel ρ b (· < w.heap.size) w H (· < nx)) (ha : SV.okL ρ (· < nx) args) (hm : Mem ρ (· < w.heap.size) w) :
    Calls P f (SV.denL ρ b args).toArray w fun e w' => (∃ v, e = .returned v ∧ R v w') ∧ Below w.heap.size w w' := by
  obtain ⟨ρ1, hs1, hy1, hx1⟩ := defs_left d0 n0 ρ
  have hJ1 := sJ ρ ρ1 hρ hs1
  have hv1 := hx1 (allV_of (z0 ρ1 hJ1 hy1))
  obtain ⟨c, hc⟩ : ∃ c, (partsOf P f)[k]? = some c := by
    unfold loopAt at hl
    split at hl
    · rename_i j x hx; exact ⟨_, hx⟩
    · cases hl
  refine calls_cut hf hb hc hn ?_
  have hstart := St.pat_ok (Reads.of (σ := ⟨[], []⟩) hs1) self (fit0 ρ1 hJ1) (start_ok (ρ := ρ) (b := b) (w0 := w) hf hH hm (Kept.refl _ _) (fun k hk => hk) ha)
  refine wpL_mono ?_ _ _ (runP_ok r0 (hJ ρ1 hJ1).1 (hJ ρ1 hJ1).2 hv1 hstart)
  rintro e a1 w1 ⟨hd1, s, hs, rfl, hpc, b1, _, hrel1⟩
  rcases e0 s hs ρ1 hJ1 (saysL_of hv1) (andB_of hpc) with ⟨hx, hrs, rs, hret, hval⟩ | ⟨hx, hS, hI1⟩
  · rw [hx]
    simp only [XK.ex, Exit.then]
    have hr := hrel1 (ρ1.sub s.σ) (Reads.of ⟨fun _ _ => rfl, fun _ _ => rfl, rfl, rfl, rfl, rfl, rfl, rfl, rfl, rfl, rfl⟩) hrs
    exact ret_ok hf hret (.inr rfl) hd1 hr fun _ => ⟨⟨_, rfl, hval _ _ _ hr⟩, hr.below.below⟩
  · rw [hx]
    simp only [XK.ex, Exit.then]
    obtain ⟨ρ2, hs2, hy2, hx2⟩ := defs_left d1 n1 (ρ1.sub s.σ)
    obtain ⟨hI2, hμ2⟩ := sI _ _ hI1 hs2
    have hv2 := hx2 (allV_of (z1 ρ2 hI2 hy2))
    have hr2 := hrel1 ρ2 (Reads.of hs2) (by rw [hS]; exact fit ρ2 hI2)
    rw [hS] at hr2
    refine wp_loopAt (J := fun n a w' => a.defers = [] ∧ ∃ ρ b', I ρ ∧ μ ρ = n ∧ allV ρ V1 ∧ Rel ρ b' (· < w.heap.size) w w' S1 a.tmps) hl (n := μ ρ2) ⟨hd1, ρ2, b1, hI2, rfl, hv2, hr2⟩ ?_ c hc
    rintro m a w' ⟨hd, ρ3, b3, hI3, rfl, hv3, hr3⟩
    refine wpL_mono ?_ _ _ (runP_ok r1 (hI ρ3 hI3).1 (hI ρ3 hI3).2 hv3 hr3)
    rintro e a4 w4 ⟨hd4, t, ht, rfl, hpc4, b4, _, hrel4⟩
    rcases e1 t ht ρ3 hI3 (saysL_of hv3) (andB_of hpc4) with ⟨hx, hS, hI4, hμ⟩ | ⟨hx, hS, hI4⟩ | ⟨hx, hrs, rs, hret, hval⟩
    · rw [hx]
      simp only [XK.ex]
      obtain ⟨ρ5, hs5, hy5, hx5⟩ := defs_left d1 n1 (ρ3.sub t.σ)
      obtain ⟨hI5, hμ5⟩ := sI _ _ hI4 hs5
      have hv5 := hx5 (allV_of (z1 ρ5 hI5 hy5))
      have hr5 := hrel4 ρ5 (Reads.of hs5) (by rw [hS]; exact fit ρ5 hI5)
      rw [hS] at hr5
      exact ⟨μ ρ5, by rw [hμ5]; exact hμ, hd4.trans hd, ρ5, b4, hI5, rfl, hv5, hr5⟩
    · rw [hx]
      simp only [XK.ex, if_true, Exit.then]
      obtain ⟨ρ5, hs5, hy5, hx5⟩ := defs_left d2 n2 (ρ3.sub t.σ)
      have hI25 := sI2 _ _ hI4 hs5
      have hv5 := hx5 (allV_of (z2 ρ5 hI25 hy5))
      have hI5 := i21 _ hI25
      have hr5 := hrel4 ρ5 (Reads.of hs5) (by rw [hS]; exact fit ρ5 hI5)
      rw [hS] at hr5
      refine wpL_mono ?_ _ _ (runP_ok r2 (hI ρ5 hI5).1 (hI ρ5 hI5).2 hv5 hr5)
      rintro e a6 w6 ⟨hd6, u, hu, rfl, hpc6, b6, _, hrel6⟩
      obtain ⟨hx6, hrs6, rs, hret6, hval6⟩ := e2 u hu ρ5 hI25 (saysL_of hv5) (andB_of hpc6)
      have hr6 := hrel6 (ρ5.sub u.σ) (Reads.of ⟨fun _ _ => rfl, fun _ _ => rfl, rfl, rfl, rfl, rfl, rfl, rfl, rfl, rfl, rfl⟩) hrs6
      refine ret_ok hf hret6 ?_ (hd6.trans (hd4.trans hd)) hr6 fun _ => ⟨⟨_, rfl, hval6 _ _ _ hr6⟩, hr6.below.below⟩
      rcases hx6 with h | h <;> rw [h]
      · exact .inl rfl
      · exact .inr rfl
    · rw [hx]
      simp only [XK.ex, Exit.then]
      have hr4 := hrel4 (ρ3.sub t.σ) (Reads.of ⟨fun _ _ => rfl, fun _ _ => rfl, rfl, rfl, rfl, rfl, rfl, rfl, rfl, rfl, rfl⟩) hrs
      exact ret_ok hf hret (.inr rfl) (hd4.trans hd) hr4 fun _ => ⟨⟨_, rfl, hval _ _ _ hr4⟩, hr4.below.below⟩
def NewList (ty : TypeId) (n0 : Nat) (w' : World) (L : List Int) (v : Value) : Prop :=
  ∃ bl c, ∃ arr : Array Value, v = .slice (some ⟨bl, 0, none⟩) L.length c ∧ n0 ≤ bl ∧ w'.heap[bl]? = some (.cells arr ty (0, 0)) ∧ arr.size = c ∧ L.length ≤ arr.size ∧ ∀ (i : Nat) (x : Int), L[i]? = some x → arr[i]? = some (.int .i64 x)
theorem newList_grow {ρ : Env} {b : Bd} {n0 : Nat} {w : World} {H : List (Nat × HEnt)} {N : Nat → Prop} (h : HRel ρ b (· < n0) w H N) {m n : Nat} {cells : List SV} {ty : TypeId} (hf : find H m = some ⟨[], ⟨cells, ty, .grow 1⟩⟩) {L : List Int} (hn : L.length = n) (hl : cells.length = n) (hc : ∀ (i : Nat) (v : SV) (x : Int), cells[i]? = some v → L[i]? = some x → v.den ρ b = .int .i64 x) :
    NewList ty n0 w L ((SV.sl m 0 n none).den ρ b) := by
  obtain ⟨_, h2, _⟩ := h.mem m _ hf (allB_nil ρ)
  obtain ⟨o0, o1, arr, o2, o3, o4, o5⟩ := h2
  refine ⟨b.β m, b.κ m, arr, by simp [SV.den, o0, hn], Nat.le_of_not_lt o1, o2, by simpa using o3, by simp only at o4; omega, fun i x hi => ?_⟩
  cases hg : cells[i]? with
  | none =>
    rw [List.getElem?_eq_none_iff] at hg
    have := (List.getElem?_eq_some_iff.1 hi).1
    omega
  | some y => rw [o5 i y hg, hc i y x hg hi]
theorem HRel.newList {ρ : Env} {b : Bd} {base : Nat → Prop} {w w' : World} {H : List (Nat × HEnt)} {nx : Nat} (h : HRel ρ b base w H (· < nx)) (hbase : (∀ k, base k → k < w.heap.size)) (hbel : Below w.heap.size w w') {ty : TypeId} {rs : List R} {v : Value} (hv : NewList ty w.heap.size w' (rs.map fun r => r.e.i ρ) v) (hr : ∀ r ∈ rs, r.ok ρ) :
    ∃ b', v = (SV.sl nx 0 rs.length none).den ρ b' ∧ Agree b b' (· < nx) ∧ HRel ρ b' base w' (push H nx ⟨[], ⟨rs.map (.int .i64), ty, .grow 1⟩⟩) (· < nx + 1) := by
  obtain ⟨bl, c, arr, rfl, h1, h2, h3, h4, h5⟩ := hv
  have hn : ¬ (nx < nx) := Nat.lt_irrefl _
  have ha : Agree b (b.put nx bl 0 c) (· < nx) := Bd.put_agree b _ _ _ hn
  have hm := h.mono (w' := w') (M := (· < nx + 1)) ha (fun n h => Nat.lt_succ_of_lt h) (fun k hk => hbel.block k hk) hbase
  have hput : (b.put nx bl 0 c).β nx = bl := by simp [Bd.put]
  have hk : SV.okL ρ (· < nx + 1) (rs.map (.int .i64)) := (okL_all _ _ _).2 fun v hv => by
    obtain ⟨r, hr', rfl⟩ := List.mem_map.1 hv
    exact hr r hr'
  refine ⟨b.put nx bl 0 c, by simp [SV.den, Bd.put], ha, ?_, ?_⟩
  · intro n e hf hg
    rw [find_push] at hf
    split at hf
    · rename_i hnn
      subst hnn
      cases hf
      refine ⟨Nat.lt_succ_self _, ⟨by simp [Bd.put], by rw [hput]; exact fun hc => by have := hbase _ hc; omega, arr, by rw [hput]; exact h2, by simp [Bd.put, h3], by simpa using h4, fun i v hi => ?_⟩, hk⟩
      simp only [List.getElem?_map] at hi
      cases hg' : rs[i]? with
      | none => rw [hg'] at hi; cases hi
      | some r =>
        rw [hg'] at hi
        cases hi
        rw [h5 i (r.e.i ρ) (by simp [hg'])]
        simp only [SV.den]
    · exact hm.mem n e hf hg
  · intro n m e k hf hkf hg hgk ho hok heq
    rw [find_push] at hf hkf
    split at hf
    · rename_i hnn
      subst hnn
      split at hkf
      · rename_i hmm; exact hmm
      · exfalso
        obtain ⟨h1', h2', _⟩ := h.mem m k hkf hgk
        have h3' := (ha m h1').1
        rw [hput] at heq
        rw [h3'] at heq
        have := (h2'.base hok).2.1
        omega
    · split at hkf
      · rename_i hmm
        subst hmm
        exfalso
        obtain ⟨h1', h2', _⟩ := h.mem n e hf hg
        have h3' := (ha n h1').1
        rw [hput, h3'] at heq
        have := (h2'.base ho).2.1
        omega
      · exact hm.inj n m e k hf hkf hg hgk ho hok heq
def newSum (ty : TypeId) (k : FuncId) (p : List SV → Option (List E × List R)) : Handler := fun pc f args H nx =>
  if Nat.beq f k then match p args with
    | some (gs, rs) => some (.leaf ⟨.sl nx 0 rs.length none, push H nx ⟨[], ⟨rs.map (.int .i64), ty, .grow 1⟩⟩, nx + 1⟩, gs.map fun g => ⟨pc, g⟩)
    | none => none
  else none
theorem newSum_ok {P : Program} {ρ : Env} {ty : TypeId} {k : FuncId} {p : List SV → Option (List E × List R)}
    (h : ∀ args gs rs, p args = some (gs, rs) → (∀ g ∈ gs, g.b ρ = true) → ∀ b base w N, SV.okL ρ N args → Mem ρ base w → (∀ k, base k → k < w.heap.size) → Calls P k (SV.denL ρ b args).toArray w fun e w' => (∃ v, e = .returned v ∧ NewList ty w.heap.size w' (rs.map fun r => r.e.i ρ) v) ∧ (∀ r ∈ rs, r.ok ρ) ∧ Below w.heap.size w w') : HOK P ρ (newSum ty k p) := by
  intro pc f args H nx r vs hs hpc hv b base w0 w hH hmem hbel hbase hargs
  unfold newSum at hs
  split at hs
  · rename_i hk
    have := Nat.eq_of_beq_eq_true hk
    subst this
    split at hs
    · rename_i gs rs hp
      cases hs
      have hg : ∀ g ∈ gs, g.b ρ = true := fun g hg => hv ⟨pc, g⟩ (List.mem_map.2 ⟨g, hg, rfl⟩) hpc
      refine (h args gs rs hp hg b base w _ hargs (hmem.kept hbel) hbase).mono ?_
      rintro e w' ⟨⟨v, rfl, h1⟩, h2, h3⟩
      obtain ⟨b', e1, e2, e3⟩ := hH.newList hbase h3 h1 h2
      exact ⟨b', by rw [e1]; rfl, e2, e3, Nat.lt_succ_self _, hbel.trans ((Kept.of h3).mono hbase), fun k hk => Nat.lt_of_lt_of_le (hbase k hk) h3.size, Nat.le_succ _⟩
    · cases hs
  · cases hs
def newOr (et ty : TypeId) (k : FuncId) (p : List SV → Option (List E × E × List R × R)) : Handler := fun pc f args H nx =>
  if Nat.beq f k then match p args with
    | some (gs, c, rs, er) => some (.node c (.leaf ⟨.tup [.sl nx 0 rs.length none, .nili], push H nx ⟨[], ⟨rs.map (.int .i64), ty, .grow 1⟩⟩, nx + 1⟩) (.leaf ⟨.tup [.nils, .ifc et (.int .i64 er)], H, nx⟩), gs.map fun g => ⟨pc, g⟩)
    | none => none
  else none
theorem newOr_ok {P : Program} {ρ : Env} {et ty : TypeId} {k : FuncId} {p : List SV → Option (List E × E × List R × R)}
    (h : ∀ args gs c rs er, p args = some (gs, c, rs, er) → (∀ g ∈ gs, g.b ρ = true) → ∀ b base w N, SV.okL ρ N args → Mem ρ base w → (∀ k, base k → k < w.heap.size) → Calls P k (SV.denL ρ b args).toArray w fun e w' => ((c.b ρ = true ∧ ∃ v, e = .returned (.tuple #[v, .nilIface]) ∧ NewList ty w.heap.size w' (rs.map fun r => r.e.i ρ) v ∧ (∀ r ∈ rs, r.ok ρ)) ∨ (c.b ρ = false ∧ e = .returned (.tuple #[.slice none 0 0, .iface et (.int .i64 (er.e.i ρ))]) ∧ er.ok ρ)) ∧ Below w.heap.size w w') : HOK P ρ (newOr et ty k p) := by
  intro pc f args H nx r vs hs hpc hv b base w0 w hH hmem hbel hbase hargs
  unfold newOr at hs
  split at hs
  · rename_i hk
    have := Nat.eq_of_beq_eq_true hk
    subst this
    split at hs
    · rename_i gs c rs er hp
      cases hs
      have hg : ∀ g ∈ gs, g.b ρ = true := fun g hg => hv ⟨pc, g⟩ (List.mem_map.2 ⟨g, hg, rfl⟩) hpc
      refine (h args gs c rs er hp hg b base w _ hargs (hmem.kept hbel) hbase).mono ?_
      rintro e w' ⟨(⟨hc, v, rfl, h1, h2⟩ | ⟨hc, rfl, h1⟩), h3⟩
      · obtain ⟨b', e1, e2, e3⟩ := hH.newList hbase h3 h1 h2
        refine ⟨b', ?_, e2, ?_, ?_, hbel.trans ((Kept.of h3).mono hbase), fun k hk => Nat.lt_of_lt_of_le (hbase k hk) h3.size, ?_⟩
        · simp only [T.at, hc, if_true]; rw [e1]; simp [SV.den, SV.denL]
        · simp only [T.at, hc, if_true]; exact e3
        · simp only [T.at, hc, if_true]; exact ⟨Nat.lt_succ_self _, trivial, trivial⟩
        · simp only [T.at, hc, if_true]; exact Nat.le_succ _
      · have hc' : ¬ (c.b ρ = true) := by rw [hc]; decide
        refine ⟨b, ?_, Agree.refl b _, ?_, ?_, hbel.trans ((Kept.of h3).mono hbase), fun k hk => Nat.lt_of_lt_of_le (hbase k hk) h3.size, ?_⟩
        · simp only [T.at, hc', if_false]; simp [SV.den, SV.denL]
        · simp only [T.at, hc', if_false]; exact hH.mono (Agree.refl b _) (fun _ h => h) (fun k hk => h3.block k hk) hbase
        · simp only [T.at, hc', if_false]; exact ⟨trivial, h1, trivial⟩
        · simp only [T.at, hc', if_false]; exact Nat.le_refl _
    · cases hs
  · cases hs
end Go.Proofs.Ytdfpenjhpemokaa.Sx
