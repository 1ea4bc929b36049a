/-
  A verified symbolic executor, part 22: regions whose order is drawn: why every order gives the same.
-/
import Derived.Test.YtdfpenjhpemokaaSxU
set_option linter.unusedVariables false
set_option linter.unusedSimpArgs false
namespace Go.Proofs.Ytdfpenjhpemokaa.Sx
open Go.RowKit (Below)

structure Ctx (P : Program) (et : TypeId) (h : Handler) (pc : List E) (ops : Array Oper) (S : St) (bl : List Nat) (tg : List (List Nat)) (r : RS) (vs : List VC) : Prop where
  all : ∀ i, i < ops.size → ∃ o x vi, ops[i]? = some o ∧ r i = some x ∧ (∃ kt kh G, x.V = viewOf r ops.toList S (L ops.size (before bl i)) (hidden bl tg ops.size i) (hiddenT ops.toList bl i) kt kh G x.V.next) ∧ viewChk x.V = true ∧ stepOp P et h pc ops x.V o = some (.leaf x.U, vi) ∧ okStep r S (L ops.size (before bl i)) (tg[i]?.getD []) true x o.dst = true ∧ ∀ v ∈ vi, v ∈ vs
  mono : ∀ j i x y, j < i → r j = some x → r i = some y → x.U.next ≤ y.V.next
  low : ∀ i x, r i = some x → S.next ≤ x.V.next ∧ x.V.next ≤ x.U.next
  edge : ∀ i o, ops[i]? = some o → (∀ j ∈ edgesOf o, j < i) ∧ (∀ j, before bl i j = true → j < i ∧ ∃ e ∈ edgesOf o, e = j ∨ before bl e j = true) ∧ (∀ t, o.dst = some t → ownT ops.toList t = some i)
  heap : ∀ n e, find S.heap n = some e → n < S.next

section
variable {P : Program} {et : TypeId} {h : Handler} {pc : List E} {ops : Array Oper} {S : St} {bl : List Nat} {tg : List (List Nat)} {r : RS} {vs : List VC}

/-- The names of an operation's own lie in its range. -/
theorem Ctx.range (c : Ctx P et h pc ops S bl tg r vs) {i : Nat} {x : OR} (hi : i < ops.size) (hx : r i = some x) {ρ : Env} {n : Nat} {e : HEnt} (hf : find (news x) n = some e) : x.V.next ≤ n := (news_mem hf).1

/-- The numbers of names. -/
def NS (S : St) (r : RS) (D : Nat → Bool) (N : Nat) (n : Nat) : Prop := n < S.next ∨ ∃ j, j < N ∧ D j = true ∧ ∃ x, r j = some x ∧ x.V.next ≤ n ∧ n < x.U.next
/-- Where something lies before another thing, so does all that lies before it. -/
def Closed (bl : List Nat) (N : Nat) (D : Nat → Bool) : Prop := ∀ i, i < N → D i = true → ∀ j, before bl i j = true → D j = true
theorem inRange_ok {l : List Nat} {n : Nat} (hn : inRange r S l n = true) : n < S.next ∨ ∃ j ∈ l, ∃ x, r j = some x ∧ x.V.next ≤ n ∧ n < x.U.next := by
  unfold inRange at hn
  simp only [Bool.or_eq_true, decide_eq_true_eq, List.any_eq_true] at hn
  rcases hn with hn | ⟨j, hj, hn⟩
  · exact .inl hn
  · split at hn
    · rename_i x hx
      simp only [Bool.and_eq_true, decide_eq_true_eq] at hn
      exact .inr ⟨j, hj, x, hx, hn⟩
    · cases hn
structure StepOk (r : RS) (S : St) (l : List Nat) (tgi : List Nat) (x : OR) (dst : Option Tmp) : Prop where
  le : x.V.next ≤ x.U.next
  seen : ∀ n e, find x.V.heap n = some e → e.blk.own = true → ∃ u, find x.U.heap n = some u ∧ u.g = e.g ∧ u.blk.kind = e.blk.kind ∧ u.blk.elem = e.blk.elem ∧ ∀ m ∈ SV.namesL u.blk.cells, inRange r S l m = true ∨ (x.V.next ≤ m ∧ m < x.U.next)
  dst : ∀ d e, dst = some d → find x.U.tmps d = some e → ∀ m ∈ e.sv.names, inRange r S l m = true ∨ (x.V.next ≤ m ∧ m < x.U.next)
  news : ∀ n e, find (news x) n = some e → ∀ m ∈ SV.namesL e.blk.cells, inRange r S l m = true ∨ (x.V.next ≤ m ∧ m < x.U.next)
  wrote : ∀ n cs, (n, cs) ∈ wrote x → n ∈ tgi
theorem okStep_ok {l : List Nat} {tgi : List Nat} {x : OR} {dst : Option Tmp} (hk : okStep r S l tgi true x dst = true) : StepOk r S l tgi x dst := by
  unfold okStep at hk
  simp only [Bool.and_eq_true, decide_eq_true_eq, List.all_eq_true, Bool.not_true, Bool.false_or, Bool.or_eq_true] at hk
  obtain ⟨⟨⟨⟨k1, k2⟩, k3⟩, k4⟩, k5⟩ := hk
  refine ⟨k1, fun n e hf ho => ?_, fun d e hd hf m hm => ?_, fun n e hf m hm => k4 _ (find_mem hf) m hm, fun n cs hm => by simpa using k5 _ hm⟩
  · have := k2 _ (find_mem hf)
    rw [hf] at this
    dsimp only at this
    rw [Bool.or_eq_true] at this
    rcases this with h1 | h1
    · rw [ho] at h1; simp at h1
    · split at h1
      · rename_i u hu
        simp only [Bool.and_eq_true, decide_eq_true_eq, List.all_eq_true, Bool.or_eq_true] at h1
        exact ⟨u, hu, sameEs_eq h1.1.1.1, h1.1.1.2, h1.1.2, h1.2⟩
      · cases h1
  · subst hd
    simp only [hf, List.all_eq_true, Bool.or_eq_true, Bool.and_eq_true, decide_eq_true_eq] at k3
    exact k3 m hm
theorem hidden_not {N i n j : Nat} (hh : hidden bl tg N i n = false) (hj : j < N) (hne : j ≠ i) (ht : n ∈ tg[j]?.getD []) : before bl i j = true ∨ before bl j i = true := by
  unfold hidden at hh
  rw [List.any_eq_false] at hh
  have := hh j (by simpa using hj)
  simp only [Bool.and_eq_true, Bool.not_eq_true', beq_eq_false_iff_ne, not_and, Bool.not_eq_true, Bool.not_eq_false] at this
  by_cases hb : before bl i j = true
  · exact .inl hb
  · exact .inr (this ⟨⟨hne, by simpa using ht⟩, by simpa using hb⟩)

/-- Who wrote a block saw it; who saw it had it ahead. -/
theorem Ctx.seen (c : Ctx P et h pc ops S bl tg r vs) {j : Nat} (hj : j < ops.size) {x : OR} (hx : r j = some x) {n : Nat} {e : HEnt} (hf : find x.V.heap n = some e) :
    entL r S (L ops.size (before bl j)) n = some e ∧ hidden bl tg ops.size j n = false ∧ n < x.V.next ∧ (n < S.next ∨ ∃ k, k < ops.size ∧ before bl j k = true ∧ ∃ y, r k = some y ∧ y.V.next ≤ n ∧ n < y.U.next) := by
  obtain ⟨o, x', vi, ho, hx', ⟨kt, kh, G, hV⟩, hchk, hst, hok, hvs⟩ := c.all j hj
  rw [hx] at hx'
  cases hx'
  have hchk' := hchk
  unfold viewChk at hchk'
  simp only [Bool.and_eq_true, List.all_eq_true, decide_eq_true_eq] at hchk'
  have hn := (hchk'.1 _ (find_mem hf)).1
  have hf2 := hf
  rw [hV] at hf2
  obtain ⟨h1, h2, h3⟩ := viewOf_heap hf2
  refine ⟨h1, h2, hn, ?_⟩
  unfold entL at h1
  rw [Option.map_eq_some_iff] at h1
  obtain ⟨e0, he0, _⟩ := h1
  rcases baseE_cases he0 with ⟨k, hk, y, hy, hfy⟩ | hs
  · rw [L_mem] at hk
    have hbl := ((c.edge j o ho).2.1 k hk.2).1
    have h4 := (news_mem hfy).1
    have this := (news_mem hfy).2.1
    exact .inr ⟨k, hk.1, hk.2, y, hy, h4, this⟩
  · exact .inl (c.heap n e0 hs)

theorem Ctx.uniq (c : Ctx P et h pc ops S bl tg r vs) {j k : Nat} {x y : OR} {n : Nat} (hx : r j = some x) (hy : r k = some y) (h1 : x.V.next ≤ n) (h2 : n < x.U.next) (h3 : y.V.next ≤ n) (h4 : n < y.U.next) : j = k := by
  rcases Nat.lt_trichotomy j k with hl | he | hl
  · have := c.mono j k x y hl hx hy; omega
  · exact he
  · have := c.mono k j y x hl hy hx; omega
theorem Ctx.base_new (c : Ctx P et h pc ops S bl tg r vs) {l : List Nat} {j : Nat} {x : OR} {n : Nat} {e : HEnt} (hj : j ∈ l) (hx : r j = some x) (hf : find (news x) n = some e) : baseE r S l n = some e :=
  baseE_new hx hf hj fun k _ hk y hy => by
    cases hq : find (news y) n with
    | none => rfl
    | some e' =>
      have a := news_mem hf
      have b := news_mem hq
      exact absurd (c.uniq hy hx b.1 b.2.1 a.1 a.2.1) hk
theorem Ctx.base_old (c : Ctx P et h pc ops S bl tg r vs) {l : List Nat} {n : Nat} (hn : n < S.next) : baseE r S l n = find S.heap n :=
  baseE_old fun k _ y hy => by
    cases hq : find (news y) n with
    | none => rfl
    | some e' => have := (news_mem hq).1; have := (c.low k y hy).1; omega
theorem Ctx.wroteTg (c : Ctx P et h pc ops S bl tg r vs) {j : Nat} (hj : j < ops.size) {x : OR} (hx : r j = some x) {n : Nat} {cs : List SV} (hw : (n, cs) ∈ wrote x) : n ∈ tg[j]?.getD [] := by
  obtain ⟨o, x', vi, ho, hx', _, _, _, hok, _⟩ := c.all j hj
  rw [hx] at hx'
  cases hx'
  exact (okStep_ok hok).wrote n cs hw
theorem applyW_eq {l m : List Nat} {n : Nat} (hl : lastW (wrsOf r l) n = lastW (wrsOf r m) n) (e : HEnt) : applyW r l n e = applyW r m n e := by unfold applyW; rw [hl]
/-- Whose writes may count: those that lie before. -/
theorem Ctx.writers (c : Ctx P et h pc ops S bl tg r vs) {D : Nat → Bool} (hcl : Closed bl ops.size D) {i : Nat} (hi : i < ops.size) (hD : D i = false) {n : Nat} (hh : hidden bl tg ops.size i n = false) {j : Nat} (hj : j < ops.size) (hDj : D j = true) {x : OR} (hx : r j = some x) {cs : List SV} (hw : (n, cs) ∈ wrote x) : before bl i j = true := by
  rcases hidden_not hh hj (fun e => by subst e; rw [hD] at hDj; cases hDj) (c.wroteTg hj hx hw) with hb | hb
  · exact hb
  · have := hcl j hj hDj i hb
    rw [hD] at this; cases this
/-- What an operation sees is so. -/
theorem Ctx.view_heap (c : Ctx P et h pc ops S bl tg r vs) {D : Nat → Bool} (hcl : Closed bl ops.size D) {i : Nat} (hi : i < ops.size) (hD : D i = false) (hb : ∀ j, before bl i j = true → D j = true) {x : OR} (hx : r i = some x) {n : Nat} {e : HEnt} (hf : find x.V.heap n = some e) : entL r S (L ops.size D) n = some e := by
  obtain ⟨h1, h2, h3, h4⟩ := c.seen hi hx hf
  unfold entL at h1 ⊢
  rw [Option.map_eq_some_iff] at h1 ⊢
  obtain ⟨e0, he0, hae⟩ := h1
  refine ⟨e0, ?_, ?_⟩
  · rcases baseE_cases he0 with ⟨k, hk, y, hy, hfy⟩ | hs
    · rw [L_mem] at hk
      exact c.base_new (L_mem.2 ⟨hk.1, hb k hk.2⟩) hy hfy
    · rw [c.base_old (c.heap n e0 hs)]; exact hs
  · rw [← hae]
    refine applyW_eq (lastW_part _ (fun j hj hq => hb j hq) (fun j hj hDj hq y hy cs hw => ?_)) e0
    rw [c.writers hcl hi hD h2 hj hDj hy hw] at hq
    cases hq
theorem Ctx.view_tmps (c : Ctx P et h pc ops S bl tg r vs) {D : Nat → Bool} (hcl : Closed bl ops.size D) {i : Nat} (hi : i < ops.size) (hD : D i = false) (hb : ∀ j, before bl i j = true → D j = true) {x : OR} (hx : r i = some x) {t : Nat} {e : Ent} (hf : find x.V.tmps t = some e) : tmpL r ops.toList S (L ops.size D) t = some e := by
  obtain ⟨o, x', vi, ho, hx', ⟨kt, kh, G, hV⟩, _, _, _, _⟩ := c.all i hi
  rw [hx] at hx'
  cases hx'
  rw [hV] at hf
  obtain ⟨this, hhid⟩ := viewOf_tmps hf
  unfold tmpL at this ⊢
  split at this
  · rename_i j hj
    unfold hiddenT at hhid
    rw [hj] at hhid
    have hjn : j < ops.size := by
      unfold ownT at hj
      rw [List.findIdx?_eq_some_iff_getElem] at hj
      obtain ⟨hl, _⟩ := hj
      simpa using hl
    split at this
    · rename_i hc
      have hm : j ∈ L ops.size (before bl i) := by simpa using hc
      rw [L_mem] at hm
      rw [if_pos (by simpa using L_mem.2 ⟨hm.1, hb j hm.2⟩)]
      exact this
    · rename_i hc
      have hnb : before bl i j = false := by
        rcases hq : before bl i j with _ | _
        · rfl
        · exact absurd (by simpa using L_mem.2 ⟨hjn, hq⟩) hc
      have hDj : D j = false := by
        by_cases hji : j = i
        · rw [hji]; exact hD
        · have hbj : before bl j i = true := by simpa [hji, hnb] using hhid
          rcases hq : D j with _ | _
          · rfl
          · have := hcl j hjn hq i hbj
            rw [hD] at this; cases this
      rw [if_neg (by
        intro hcc
        have : j ∈ L ops.size D := by simpa using hcc
        rw [L_mem, hDj] at this
        cases this.2)]
      exact this
  · exact this
def plus (D : Nat → Bool) (i : Nat) : Nat → Bool := fun j => D j || decide (j = i)
theorem Ctx.one (c : Ctx P et h pc ops S bl tg r vs) {ρ : Env} (he : ρ.et = et) (hh : HOK P ρ h) (hpc : allB ρ pc) (hv : allV ρ vs) {D : Nat → Bool} (hcl : Closed bl ops.size D) {i : Nat} (hi : i < ops.size) (hD : D i = false) (hb : ∀ j, before bl i j = true → D j = true)
    {b : Bd} {base : Nat → Prop} {w0 w : World} {a : Act} (hg : GRel ρ b base w0 w (tmpL r ops.toList S (L ops.size D)) (entL r S (L ops.size D)) (NS S r D ops.size) a.tmps S.nt) {Q : Exit → Act → World → Prop} {K : Act → World → Prop}
    (hk : ∀ b' w' a', a'.defers = a.defers → Agree b b' (· < S.next) → GRel ρ b' base w0 w' (tmpL r ops.toList S (L ops.size (plus D i))) (entL r S (L ops.size (plus D i))) (NS S r (plus D i) ops.size) a'.tmps S.nt → K a' w') : wpOp P ops Q i K a w := by
  obtain ⟨o, x, vi, ho, hx, ⟨kt, kh, G, hV⟩, hchk, hst, hok, hvi⟩ := c.all i hi
  have hs := okStep_ok hok
  have hnt : x.V.nt = S.nt := by rw [hV]; rfl
  have hVT : ∀ t e, find x.V.tmps t = some e → tmpL r ops.toList S (L ops.size D) t = some e := fun t e hf => c.view_tmps hcl hi hD hb hx hf
  have hVH : ∀ n e, find x.V.heap n = some e → entL r S (L ops.size D) n = some e := fun n e hf => c.view_heap hcl hi hD hb hx hf
  have hrel := hg.view hVT hVH hnt hchk
  refine stepOp_ok he hh hst hpc (fun v hvv => hv v (hvi v hvv)) hrel ho (fun b' w' val d1 d2 d3 => ?_)
  simp only [T.at] at d2 d3
  have hlow := c.low i x hx
  have hal : ∀ m, (inRange r S (L ops.size (before bl i)) m = true ∨ (x.V.next ≤ m ∧ m < x.U.next)) → NS S r (plus D i) ops.size m := by
    intro m hm
    rcases hm with hm | hm
    · rcases inRange_ok hm with h1 | ⟨j, hj, y, hy, h1⟩
      · exact .inl h1
      · rw [L_mem] at hj
        exact .inr ⟨j, hj.1, by simp [plus, hb j hj.2], y, hy, h1⟩
    · exact .inr ⟨i, hi, by simp [plus], x, hx, hm⟩
  have hst := hg.step (V := x.V) (U := x.U) (b' := b') (w' := w') (Tm' := tmpL r ops.toList S (L ops.size (plus D i))) (Hp' := entL r S (L ops.size (plus D i))) (N' := NS S r (plus D i) ops.size) hVH d1 d2 d3 (fun n e hf => (c.seen hi hx hf).2.2.1) ?hT ?hH ?hN1 ?hN2 ?hN3 (by cases o.dst <;> simp [Act.put])
  · refine hk _ _ _ (by cases o.dst <;> rfl) ?_ hst
    exact Bd.join_old (N := (· < S.next)) (fun n hn => by omega)
  case hT =>
    intro t e hf
    unfold tmpL at hf
    split at hf
    · rename_i j hj
      split at hf
      · rename_i hc
        have hm : j ∈ L ops.size (plus D i) := by simpa using hc
        rw [L_mem] at hm
        by_cases hji : j = i
        · subst hji
          have hdst : o.dst = some t := by
            unfold ownT at hj
            rw [List.findIdx?_eq_some_iff_getElem] at hj
            obtain ⟨hl, h1, _⟩ := hj
            have h2 : ops.toList[j] = o := by
              have := (Array.getElem?_eq_some_iff.1 ho).2
              simpa using this
            rw [h2] at h1
            simpa using h1
          rw [hx] at hf
          simp only [Option.bind_some] at hf
          exact .inl ⟨hdst, hf, fun m hm => hal m (hs.dst t e hdst hf m hm)⟩
        · refine .inr ⟨fun hdst => hji ?_, ?_⟩
          · have := (c.edge i o ho).2.2 t hdst
            rw [hj] at this
            exact Option.some.inj this
          · have hDj : D j = true := by simpa [plus, hji] using hm.2
            unfold tmpL
            rw [hj]
            dsimp only
            rw [if_pos (by simpa using L_mem.2 ⟨hm.1, hDj⟩)]
            exact hf
      · rename_i hc
        have hjn : j < ops.size := by
          unfold ownT at hj
          rw [List.findIdx?_eq_some_iff_getElem] at hj
          obtain ⟨hl, _⟩ := hj
          simpa using hl
        have hpj : plus D i j = false := by
          rcases hq : plus D i j with _ | _
          · rfl
          · exact absurd (by simpa using L_mem.2 ⟨hjn, hq⟩) hc
        have hji : ¬ j = i := fun e => by simp [plus, e] at hpj
        have hDj : D j = false := by simpa [plus, hji] using hpj
        refine .inr ⟨fun hdst => hji ?_, ?_⟩
        · have := (c.edge i o ho).2.2 t hdst
          rw [hj] at this
          exact Option.some.inj this
        · unfold tmpL
          rw [hj]
          dsimp only
          rw [if_neg (by
            intro hcc
            have : j ∈ L ops.size D := by simpa using hcc
            rw [L_mem, hDj] at this
            cases this.2)]
          exact hf
    · rename_i hn
      refine .inr ⟨fun hdst => ?_, ?_⟩
      · have := (c.edge i o ho).2.2 t hdst
        rw [hn] at this
        cases this
      · unfold tmpL
        rw [hn]
        exact hf
  case hN1 =>
    intro n hn
    rcases hn with hn | ⟨j, hj, hDj, y, hy, h1⟩
    · exact .inl hn
    · exact .inr ⟨j, hj, by simp [plus, hDj], y, hy, h1⟩
  case hN2 => exact fun n h1 h2 => .inr ⟨i, hi, by simp [plus], x, hx, h1, h2⟩
  case hN3 =>
    intro n hn hc
    rcases hn with hn | ⟨j, hj, hDj, y, hy, h1⟩
    · omega
    · have := c.uniq hy hx h1.1 h1.2 hc.1 hc.2
      subst this
      rw [hD] at hDj; cases hDj
  case hH =>
    intro n e hf hge
    -- the block's first state
    unfold entL at hf
    rw [Option.map_eq_some_iff] at hf
    obtain ⟨e0, he0, hae⟩ := hf
    by_cases hnew : ∃ e1, find (news x) n = some e1
    · obtain ⟨e1, hfe⟩ := hnew
      have hnm := news_mem hfe
      have hb0 := c.base_new (S := S) (L_mem.2 ⟨hi, by simp [plus]⟩ : i ∈ L ops.size (plus D i)) hx hfe
      rw [hb0] at he0
      cases he0
      have hno : lastW (wrsOf r (L ops.size (plus D i))) n = none := by
        refine lastW_none fun cs hcs => ?_
        obtain ⟨j, hj, y, hy, hw⟩ := wrsOf_mem hcs
        rw [L_mem] at hj
        obtain ⟨e2, u2, hf2, _, _, _⟩ := wrote_mem hw
        obtain ⟨s1, s2, s3, s4⟩ := c.seen hj.1 hy hf2
        rcases s4 with s4 | ⟨k, hk, hbk, z, hz, z1, z2⟩
        · omega
        · have := c.uniq hz hx z1 z2 hnm.1 hnm.2.1
          subst this
          by_cases hji : j = k
          · subst hji
            rw [hx] at hy; cases hy
            omega
          · have hDj : D j = true := by simpa [plus, hji] using hj.2
            have := hcl j hj.1 hDj k hbk
            rw [hD] at this; cases this
      unfold applyW at hae
      rw [hno] at hae
      subst hae
      exact .inl ⟨hnm.1, hnm.2.2.2, hnm.2.2.1, fun m hm => hal m (hs.news n _ hfe m hm)⟩
    · -- the same block as before
      have hbase : baseE r S (L ops.size D) n = some e0 := by
        rcases baseE_cases he0 with ⟨k, hk, y, hy, hfy⟩ | hs'
        · rw [L_mem] at hk
          by_cases hki : k = i
          · subst hki
            rw [hx] at hy; cases hy
            exact absurd ⟨_, hfy⟩ hnew
          · exact c.base_new (L_mem.2 ⟨hk.1, by simpa [plus, hki] using hk.2⟩) hy hfy
        · rw [c.base_old (c.heap n e0 hs')]; exact hs'
      by_cases hw : ∃ cs, (n, cs) ∈ wrote x
      · obtain ⟨cs, hw⟩ := hw
        obtain ⟨ev, u, hfv, hfu, hov, hcs⟩ := wrote_mem hw
        obtain ⟨u', hu', hug, huk, hue, hun⟩ := hs.seen n ev hfv hov
        rw [hfu] at hu'
        cases hu'
        obtain ⟨s1, s2, s3, s4⟩ := c.seen hi hx hfv
        have hlast : lastW (wrsOf r (L ops.size (plus D i))) n = lastW (wrote x) n := by
          refine lastW_at hx _ hi (by simp [plus]) (fun j hj hij hpj y hy cs' hw' => ?_) ⟨cs, hw⟩
          have hDj : D j = true := by
            have : ¬ j = i := by omega
            simpa [plus, this] using hpj
          have := c.writers hcl hi hD s2 hj hDj hy hw'
          have := ((c.edge i o ho).2.1 j this).1
          omega
        obtain ⟨d, hd⟩ := lastW_has hw
        have hdc : d = u.blk.cells := by
          obtain ⟨_, u2, _, hu2, _, hc2⟩ := wrote_mem (lastW_some hd)
          rw [hfu] at hu2
          cases hu2
          exact hc2
        have hve := hVH n ev hfv
        unfold entL at hve
        rw [hbase] at hve
        simp only [Option.map_some, Option.some.injEq] at hve
        have hshape : ev.g = e0.g ∧ ev.blk.kind = e0.blk.kind ∧ ev.blk.elem = e0.blk.elem := by
          rw [← hve]
          unfold applyW
          split <;> exact ⟨rfl, rfl, rfl⟩
        unfold applyW at hae
        rw [hlast, hd] at hae
        dsimp only at hae
        have heg : e.g = e0.g := by rw [← hae]
        have heb : e.blk = u.blk := by
          rw [← hae]
          have hk2 : u.blk.kind = e0.blk.kind := huk.trans hshape.2.1
          have he2 : u.blk.elem = e0.blk.elem := hue.trans hshape.2.2
          show (⟨d, e0.blk.elem, e0.blk.kind⟩ : Blk) = u.blk
          rw [hdc, ← hk2, ← he2]
        have hgv : allB ρ ev.g := by rw [hshape.1, ← heg]; exact hge
        refine .inr (.inl ⟨ev, u, hfv, hgv, hov, hfu, by rw [hug]; exact hgv, huk, hue, heb, fun m hm => ?_⟩)
        rw [heb] at hm
        exact hal m (hun m hm)
      · have hsame : entL r S (L ops.size D) n = some e := by
          unfold entL
          rw [hbase]
          simp only [Option.map_some, Option.some.injEq]
          rw [← hae]
          refine applyW_eq (Eq.symm (lastW_part _ (fun j hj hDj => by simp [plus, hDj]) (fun j hj hpj hDj y hy cs hw' => ?_))) e0
          have hji : j = i := by
            rcases Classical.em (j = i) with h1 | h1
            · exact h1
            · exfalso; simp [plus, h1] at hpj; rw [hDj] at hpj; cases hpj
          subst hji
          rw [hx] at hy; cases hy
          exact hw ⟨cs, hw'⟩
        by_cases hvis : ∃ ev, find x.V.heap n = some ev ∧ ev.blk.own = true
        · obtain ⟨ev, hfv, hov⟩ := hvis
          obtain ⟨u, hfu, hug, huk, hue, hun⟩ := hs.seen n ev hfv hov
          have hev := hVH n ev hfv
          rw [hsame] at hev
          cases hev
          have hcells : e.blk.cells = u.blk.cells := by
            rcases hsm : SV.sameL e.blk.cells u.blk.cells with _ | _
            · exfalso
              refine hw ⟨u.blk.cells, ?_⟩
              unfold Sx.wrote
              rw [List.mem_filterMap]
              refine ⟨(n, e), find_mem hfv, ?_⟩
              simp only [hfv, hfu, hov, hsm]
              rfl
            · exact SV.sameL_eq _ _ hsm
          have hblk : e.blk = u.blk := by
            cases he : e.blk with
            | mk c1 c2 c3 =>
              cases hu : u.blk with
              | mk d1 d2 d3 =>
                rw [he, hu] at hcells huk hue
                simp only at hcells huk hue
                rw [hcells, huk, hue]
          refine .inr (.inl ⟨e, u, hfv, hge, hov, hfu, by rw [hug]; exact hge, huk, hue, hblk, fun m hm => ?_⟩)
          rw [hblk] at hm
          exact hal m (hun m hm)
        · refine .inr (.inr ⟨hsame, fun ev hfv => ?_⟩)
          rcases hov : ev.blk.own with _ | _
          · rfl
          · exact absurd ⟨ev, hfv, hov⟩ hvis
end
end Go.Proofs.Ytdfpenjhpemokaa.Sx
