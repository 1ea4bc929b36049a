/-
  A verified symbolic executor, part 23: regions whose order is drawn.
-/
import Derived.Test.YtdfpenjhpemokaaSxV
set_option linter.unusedVariables false
set_option linter.unusedSimpArgs false
namespace Go.Proofs.Ytdfpenjhpemokaa.Sx
open Go.RowKit (Below)

section
variable {P : Program} {et : TypeId} {h : Handler} {pc : List E} {ops : Array Oper} {S : St} {bl : List Nat} {tg : List (List Nat)} {vs : List VC}

theorem inRange_congr {r r' : RS} {l : List Nat} (hr : ∀ j ∈ l, r j = r' j) (n : Nat) : inRange r S l n = inRange r' S l n := by
  unfold inRange
  congr 1
  induction l with
  | nil => rfl
  | cons a l ih =>
    rw [List.any_cons, List.any_cons, hr a (.head _), ih (fun j hj => hr j (.tail _ hj))]
theorem okStep_congr {r r' : RS} {l : List Nat} (hr : ∀ j ∈ l, r j = r' j) (tgi : List Nat) (st : Bool) (x : OR) (dst : Option Tmp) : okStep r S l tgi st x dst = okStep r' S l tgi st x dst := by
  have : inRange r S l = inRange r' S l := funext (inRange_congr hr)
  unfold okStep
  rw [this]
theorem drawChk_parts (hc : drawChk P ops S bl = true) : P.follows .mixedOrders = true ∧
    (∀ i, i < ops.size → ∃ o, ops[i]? = some o ∧ (∀ j ∈ edgesOf o, j < i) ∧ (∀ j, before bl i j = true → j < i ∧ ∃ e ∈ edgesOf o, e = j ∨ before bl e j = true) ∧ (∀ t, o.dst = some t → ownT ops.toList t = some i)) ∧
    (∀ n e, find S.heap n = some e → n < S.next) := by
  unfold drawChk at hc
  simp only [Bool.and_eq_true, List.all_eq_true, decide_eq_true_eq, List.mem_range] at hc
  obtain ⟨⟨h1, h2⟩, h3⟩ := hc
  refine ⟨h1, fun i hi => ?_, fun n e hf => h3 _ (find_mem hf)⟩
  have := h2 i hi
  split at this
  · rename_i o ho
    simp only [Bool.and_eq_true, List.all_eq_true, decide_eq_true_eq, List.any_eq_true, Bool.or_eq_true, beq_iff_eq] at this
    refine ⟨o, ho, this.1.1.1, fun j hj => ?_, fun t ht => ?_⟩
    · have hji : j < i := by
        rcases Nat.lt_or_ge j i with h | h
        · exact h
        · exfalso
          unfold before at hj
          rw [Nat.testBit_lt_two_pow (Nat.lt_of_lt_of_le this.1.1.2 (Nat.pow_le_pow_right (by omega) h))] at hj
          cases hj
      refine ⟨hji, ?_⟩
      have h5 := this.1.2 j (by simpa using hji)
      rw [hj] at h5
      simpa using h5
    have h4 := this.2
    rw [ht] at h4
    simpa using h4
  · cases this
theorem ctx_of (hc : drawChk P ops S bl = true) {rs : List OR} (hd : drawL P et h pc ops S bl tg ops.size true ops.toList [] = some (rs, vs)) : Ctx P et h pc ops S bl tg (fun j => rs[j]?) vs ∧ rs.length = ops.size := by
  obtain ⟨p1, p2, p3⟩ := drawChk_parts hc
  obtain ⟨f1, f2, f3⟩ := drawL_facts hd
  simp only [List.length_nil, Nat.zero_add, Array.length_toList] at f1 f3
  have hfact : ∀ i, i < ops.size → ∃ o x vi, ops[i]? = some o ∧ rs[i]? = some x ∧ Fact P et h pc ops S bl tg ops.size (rs.take i) o x vi ∧ ∀ v ∈ vi, v ∈ vs := by
    intro i hi
    obtain ⟨o, ho, _⟩ := p2 i hi
    obtain ⟨x, vi, a1, a2, a3⟩ := f3 i o (by simpa using ho)
    exact ⟨o, x, vi, ho, a1, a2, a3⟩
  have hlen : ∀ i, i ≤ ops.size → (rs.take i).length = i := by intro i hi; rw [List.length_take]; omega
  have hlt : ∀ i j, i < ops.size → j ∈ L ops.size (before bl i) → j < i := by
    intro i j hi hj
    obtain ⟨o, ho, _, h2, _⟩ := p2 i hi
    exact (h2 j (L_mem.1 hj).2).1
  have hpre : ∀ i, i < ops.size → ∀ j ∈ L ops.size (before bl i), (fun j => (rs.take i)[j]?) j = (fun j => rs[j]?) j := by
    intro i hi j hj
    have := hlt i j hi hj
    simp only [List.getElem?_take]
    rw [if_pos this]
  have hlast0 : lastNext S (rs.take 0) = S.next := rfl
  have hlast : ∀ i x, i < ops.size → rs[i]? = some x → lastNext S (rs.take (i + 1)) = x.U.next := by
    intro i x hi hx
    unfold lastNext
    rw [List.getLast?_eq_getElem?, hlen (i + 1) (by omega)]
    simp only [Nat.add_sub_cancel, List.getElem?_take]
    rw [if_pos (by omega), hx]
  have hnext : ∀ i x, i < ops.size → rs[i]? = some x → x.V.next = lastNext S (rs.take i) ∧ x.V.next ≤ x.U.next := by
    intro i x hi hx
    obtain ⟨o, x', vi, ho, hx', hf, _⟩ := hfact i hi
    rw [hx] at hx'
    cases hx'
    obtain ⟨kt, kh, G, hV⟩ := hf.view
    refine ⟨by rw [hV]; rfl, ?_⟩
    have := hf.ok
    rw [hlen i (by omega)] at this
    exact (okStep_ok this).le
  have hlow : ∀ i x, i < ops.size → rs[i]? = some x → S.next ≤ x.V.next := by
    intro i
    induction i with
    | zero => intro x hi hx; rw [(hnext 0 x hi hx).1, hlast0]; exact Nat.le_refl _
    | succ i ih =>
      intro x hi hx
      obtain ⟨o, y, vi, ho, hy, _, _⟩ := hfact i (by omega)
      have h1 := ih y (by omega) hy
      have h2 := (hnext i y (by omega) hy).2
      rw [(hnext (i + 1) x hi hx).1, hlast i y (by omega) hy]
      omega
  have hmono : ∀ j i x y, j < i → i < ops.size → rs[j]? = some x → rs[i]? = some y → x.U.next ≤ y.V.next := by
    intro j i
    induction i with
    | zero => intro x y hj; omega
    | succ i ih =>
      intro x y hj hi hx hy
      obtain ⟨o, z, vi, ho, hz, _, _⟩ := hfact i (by omega)
      rw [(hnext (i + 1) y hi hy).1, hlast i z (by omega) hz]
      by_cases he : j = i
      · subst he
        rw [hx] at hz; cases hz
        exact Nat.le_refl _
      · have h1 := ih x z (by omega) (by omega) hx hz
        have h2 := (hnext i z (by omega) hz).2
        omega
  have hsz : ∀ i x, rs[i]? = some x → i < ops.size := fun i x hx => by have := (List.getElem?_eq_some_iff.1 hx).1; omega
  refine ⟨⟨fun i hi => ?_, fun j i x y hj hx hy => hmono j i x y hj (hsz i y hy) hx hy, fun i x hx => ⟨hlow i x (hsz i x hx) hx, (hnext i x (hsz i x hx) hx).2⟩, fun i o ho => ?_, p3⟩, f1⟩
  · obtain ⟨o, x, vi, ho, hx, hf, hvi⟩ := hfact i hi
    obtain ⟨kt, kh, G, hV⟩ := hf.view
    have hn := (hnext i x hi hx).1
    rw [hlen i (by omega), viewOf_congr (hpre i hi), ← hn] at hV
    have hok := hf.ok
    rw [hlen i (by omega), okStep_congr (hpre i hi)] at hok
    exact ⟨o, x, vi, ho, hx, ⟨kt, kh, G, hV⟩, hf.chk, hf.step, hok, hvi⟩
  · have hi : i < ops.size := (Array.getElem?_eq_some_iff.1 ho).1
    obtain ⟨o', ho', h1⟩ := p2 i hi
    rw [ho] at ho'
    cases ho'
    exact h1

theorem entL_none {r : RS} {D : Nat → Bool} {N : Nat} (hD : ∀ j, D j = false) (n : Nat) : entL r S (L N D) n = find S.heap n := by
  have : L N D = [] := by unfold L; rw [List.filter_eq_nil_iff]; intro j _; rw [hD j]; simp
  rw [this]
  unfold entL applyW
  simp only [baseE, wrsOf, List.flatMap_nil, lastW]
  cases find S.heap n <;> rfl
theorem wpAny_drawn {r : RS} (c : Ctx P et h pc ops S bl tg r vs) {ρ : Env} (he : ρ.et = et) (hh : HOK P ρ h) (hpc : allB ρ pc) (hv : allV ρ vs) {base : Nat → Prop} {w0 : World} {Q : Exit → Act → World → Prop} {b0 : Bd} {dfs : List Deferred}
    (hQ : ∀ b w a, a.defers = dfs → Agree b0 b (· < S.next) → GRel ρ b base w0 w (tmpL r ops.toList S (L ops.size fun _ => true)) (entL r S (L ops.size fun _ => true)) (NS S r (fun _ => true) ops.size) a.tmps S.nt → Q .normal a w) :
    ∀ (fuel : Nat) (listed : Array Bool) (D : Nat → Bool) (b : Bd) (w : World) (a : Act), listed.size = ops.size → (∀ j, j < ops.size → listed.getD j true = D j) → (∀ j, ops.size ≤ j → D j = false) → (L ops.size fun j => !D j).length ≤ fuel → Closed bl ops.size D → a.defers = dfs → Agree b0 b (· < S.next) →
      GRel ρ b base w0 w (tmpL r ops.toList S (L ops.size D)) (entL r S (L ops.size D)) (NS S r D ops.size) a.tmps S.nt → wpAny P .any ops Q fuel listed a w := by
  have hready : ∀ (listed : Array Bool) (D : Nat → Bool), listed.size = ops.size → (∀ j, j < ops.size → listed.getD j true = D j) → ∀ i, i ∈ Region.ready .any ops listed ↔ i < ops.size ∧ D i = false ∧ ∀ o, ops[i]? = some o → ∀ j ∈ edgesOf o, D j = true := by
    intro listed D hls hl i
    have hget : ∀ j, j < ops.size → ∀ d, listed.getD j d = D j := by
      intro j hj d
      rw [← hl j hj]
      have hjl : j < listed.size := by omega
      simp [Array.getD, hjl]
    unfold Region.ready
    simp only [List.mem_filter, List.mem_range, Bool.and_eq_true, Bool.not_eq_true']
    constructor
    · rintro ⟨h1, h2, h3⟩
      refine ⟨h1, by rw [← hget i h1]; exact h2, fun o ho j hj => ?_⟩
      rw [ho] at h3
      simp only [Option.map_some, Option.getD_some, Array.all_eq_true] at h3
      unfold edgesOf at hj
      rw [List.mem_map] at hj
      obtain ⟨e, he, rfl⟩ := hj
      rw [List.mem_filter] at he
      have hel := (c.edge i o ho).1 e.on (by unfold edgesOf; exact List.mem_map.2 ⟨e, List.mem_filter.2 he, rfl⟩)
      have hmem : e ∈ o.after := by simpa using he.1
      obtain ⟨k, hk, hke⟩ := Array.mem_iff_getElem.1 hmem
      have := h3 k hk
      rw [hke] at this
      simp only [he.2, Bool.not_true, Bool.false_or] at this
      rw [← hget e.on (by omega)]; exact this
    · rintro ⟨h1, h2, h3⟩
      refine ⟨h1, by rw [hget i h1]; exact h2, ?_⟩
      have ho : ops[i]? = some ops[i] := by simp [h1]
      rw [ho]
      simp only [Option.map_some, Option.getD_some, Array.all_eq_true]
      intro k hk
      rcases hbd : Region.binds .any ops[i].after[k] with _ | _
      · rfl
      · simp only [Bool.not_true, Bool.false_or]
        have hmem : ops[i].after[k].on ∈ edgesOf ops[i] := by
          unfold edgesOf
          exact List.mem_map.2 ⟨ops[i].after[k], List.mem_filter.2 ⟨by simp, hbd⟩, rfl⟩
        have hel := (c.edge i _ ho).1 _ hmem
        rw [hget _ (by omega)]
        exact h3 _ ho _ hmem
  have hdone : ∀ (listed : Array Bool) (D : Nat → Bool), listed.size = ops.size → (∀ j, j < ops.size → listed.getD j true = D j) → Region.ready .any ops listed = [] → ∀ i, i < ops.size → D i = true := by
    intro listed D hls hl hr i
    induction i using Nat.strongRecOn with
    | _ i ih =>
      intro hi
      rcases hDi : D i with _ | _
      · exfalso
        have : i ∈ Region.ready .any ops listed := by
          rw [hready listed D hls hl]
          refine ⟨hi, hDi, fun o ho j hj => ?_⟩
          have := (c.edge i o ho).1 j hj
          exact ih j this (by omega)
        rw [hr] at this
        cases this
      · rfl
  have hall : ∀ (D : Nat → Bool), (∀ i, i < ops.size → D i = true) → L ops.size D = L ops.size (fun _ => true) := by
    intro D hD
    unfold L
    exact List.filter_congr fun j hj => by rw [hD j (by simpa using hj)]
  have hfin : ∀ (listed : Array Bool) (D : Nat → Bool) (b : Bd) (w : World) (a : Act), listed.size = ops.size → (∀ j, j < ops.size → listed.getD j true = D j) → Region.ready .any ops listed = [] → a.defers = dfs → Agree b0 b (· < S.next) →
      GRel ρ b base w0 w (tmpL r ops.toList S (L ops.size D)) (entL r S (L ops.size D)) (NS S r D ops.size) a.tmps S.nt → Q .normal a w := by
    intro listed D b w a hls hl hr hda hag hg
    have hD := hdone listed D hls hl hr
    rw [hall D hD] at hg
    refine hQ b w a hda hag ?_
    have hNe : NS S r D ops.size = NS S r (fun _ => true) ops.size := by
      funext n
      refine propext ⟨fun hn => ?_, fun hn => ?_⟩
      · rcases hn with hn | ⟨j, hj, _, y, hy⟩
        · exact .inl hn
        · exact .inr ⟨j, hj, rfl, y, hy⟩
      · rcases hn with hn | ⟨j, hj, _, y, hy⟩
        · exact .inl hn
        · exact .inr ⟨j, hj, hD j hj, y, hy⟩
    rw [← hNe]; exact hg
  intro fuel
  induction fuel with
  | zero =>
    intro listed D b w a hls hl hDo hf hcl hda hag hg
    have hr : Region.ready .any ops listed = [] := by
      rw [List.eq_nil_iff_forall_not_mem]
      intro i hi
      rw [hready listed D hls hl] at hi
      have hm : i ∈ L ops.size fun j => !D j := L_mem.2 ⟨hi.1, by simp [hi.2.1]⟩
      have : (L ops.size fun j => !D j) = [] := List.eq_nil_of_length_eq_zero (by omega)
      rw [this] at hm
      cases hm
    exact ⟨hr, hfin listed D b w a hls hl hr hda hag hg⟩
  | succ fuel ih =>
    intro listed D b w a hls hl hDo hf hcl hda hag hg
    refine ⟨fun hr => hfin listed D b w a hls hl hr hda hag hg, fun i hi => ?_⟩
    rw [hready listed D hls hl] at hi
    obtain ⟨hi1, hi2, hi3⟩ := hi
    have ho : ops[i]? = some ops[i] := by simp [hi1]
    have hb : ∀ j, before bl i j = true → D j = true := by
      intro j hj
      obtain ⟨_, e, hee, hej⟩ := (c.edge i _ ho).2.1 j hj
      have hDe := hi3 _ ho e hee
      have hel := (c.edge i _ ho).1 e hee
      rcases hej with rfl | hej
      · exact hDe
      · exact hcl e (by omega) hDe j hej
    refine c.one he hh hpc hv hcl hi1 hi2 hb hg (fun b' w' a' e1 e2 e3 => ?_)
    refine ih _ (plus D i) b' w' a' (by simpa using hls) (fun j hj => ?_) (fun j hj => ?_) ?_ ?_ (e1.trans hda) (hag.trans e2 fun n hn => hn) e3
    · have hjl : j < listed.size := by omega
      have hjl2 : j < (listed.setIfInBounds i true).size := by simpa using hjl
      by_cases hji : j = i
      · subst hji
        simp [plus, Array.getD, hls, hi1]
      · have h1 := hl j hj
        simp only [Array.getD_eq_getD_getElem?] at h1 ⊢
        rw [Array.getElem?_setIfInBounds_ne (Ne.symm hji), h1]
        simp [plus, hji]
    · have : ¬ j = i := by omega
      simp [plus, hDo j hj, this]
    · -- one less is left
      have key : ∀ N, i < N → (L N fun j => !(plus D i j)).length + 1 = (L N fun j => !D j).length := by
        intro N
        induction N with
        | zero => intro h; omega
        | succ N ihN =>
          intro hN
          rw [L_cons, L_cons]
          by_cases hiN : i = N
          · subst hiN
            have h1 : (L i fun j => !(plus D i j)) = L i fun j => !D j := by
              unfold L
              refine List.filter_congr fun j hj => ?_
              have : ¬ j = i := by have := List.mem_range.1 hj; omega
              simp [plus, this]
            rw [h1]
            simp [plus, hi2]
          · have := ihN (by omega)
            have h2 : ¬ N = i := fun e => hiN e.symm
            simp only [plus, h2, decide_false, Bool.or_false, List.length_append] at this ⊢
            omega
      have := key ops.size hi1
      omega
    · intro k hk hDk j hj
      by_cases hki : k = i
      · subst hki
        simp [plus, hb j hj]
      · have hDk' : D k = true := by simpa [plus, hki] using hDk
        simp [plus, hcl k hk hDk' j hj]
end

theorem runDraw_ok {P : Program} {et : TypeId} {ρ : Env} (he : ρ.et = et) (h : Handler) (hh : HOK P ρ h) : DOK P ρ (runDraw P et h) := by
  intro ops pc S t vs hs hpc hv id b base w0 w a hr
  unfold runDraw at hs
  dsimp only at hs
  split at hs
  · rename_i hchk
    have key : ∃ tg rs, drawL P et h pc ops S (befs ops.toList []) tg ops.size true ops.toList [] = some (rs, vs) ∧ t = .leaf (viewOf (fun j => rs[j]?) ops.toList S (L ops.size fun _ => true) (fun _ => false) (fun _ => false) (keysT ops.toList S) (keysH (fun j => rs[j]?) S (L ops.size fun _ => true)) [] (lastNext S rs)) := by
      split at hs
      · rename_i tg rs vs' hx
        cases hs
        split at hx
        · split at hx
          · rename_i rs0 _ _
            rw [Option.map_eq_some_iff] at hx
            obtain ⟨y, hy, hye⟩ := hx
            cases hye
            exact ⟨_, _, hy, rfl⟩
          · cases hx
        · rw [Option.map_eq_some_iff] at hx
          obtain ⟨y, hy, hye⟩ := hx
          cases hye
          exact ⟨[], rs, hy, rfl⟩
      · cases hs
    obtain ⟨tg, rs, hd, rfl⟩ := key
    obtain ⟨c, hlen⟩ := ctx_of hchk hd
    obtain ⟨hmix, _, hheap⟩ := drawChk_parts hchk
    refine wp_region_any hmix ?_
    have hg0 : GRel ρ b base w0 { w with drawn := w.drawn + 1 } (tmpL (fun j => rs[j]?) ops.toList S (L ops.size fun _ => false)) (entL (fun j => rs[j]?) S (L ops.size fun _ => false)) (NS S (fun j => rs[j]?) (fun _ => false) ops.size) a.tmps S.nt := by
      have hN : ∀ n, n < S.next → NS S (fun j => rs[j]?) (fun _ => false) ops.size n := fun n hn => .inl hn
      refine ⟨fun n e hf hge => ?_, fun n m e k hf hk hge hgk ho hok heq => ?_, fun i e hf => ?_, ⟨hr.below.os, hr.below.tape, hr.below.output, hr.below.size, hr.below.block⟩, hr.base, hr.nt, hr.kept⟩
      · rw [entL_none (fun _ => rfl)] at hf
        obtain ⟨m1, m2, m3⟩ := hr.heap.mem n e hf hge
        exact ⟨hN n m1, m2, SV.okL_mono hN _ m3⟩
      · rw [entL_none (fun _ => rfl)] at hf hk
        exact hr.heap.inj n m e k hf hk hge hgk ho hok heq
      · unfold tmpL at hf
        have hf : find S.tmps i = some e := by
          split at hf
          · rw [if_neg (by simp [L])] at hf
            exact hf
          · exact hf
        obtain ⟨t1, t2⟩ := hr.tmps i e hf
        exact ⟨fun hge => ⟨(t1 hge).1, SV.ok_mono hN _ (t1 hge).2⟩, t2⟩
    refine wpAny_drawn c he hh hpc hv (b0 := b) (dfs := a.defers) (base := base) (w0 := w0) ?_ ops.size _ (fun _ => false) b _ a (by simp) (fun j hj => by simp [Array.getD, hj]) (fun _ _ => rfl) ?_ (fun _ _ hc => by cases hc) rfl (Agree.refl b _) hg0
    · intro b' w' a' hda hag hg
      have hlast : S.next ≤ lastNext S rs ∧ ∀ n, NS S (fun j => rs[j]?) (fun _ => true) ops.size n → n < lastNext S rs := by
        unfold lastNext
        rw [List.getLast?_eq_getElem?]
        by_cases h0 : rs.length = 0
        · have hnone : rs[rs.length - 1]? = none := by rw [List.getElem?_eq_none]; omega
          rw [hnone]
          refine ⟨Nat.le_refl _, fun n hn => ?_⟩
          rcases hn with hn | ⟨j, hj, _⟩
          · exact hn
          · omega
        · have hsome : rs[rs.length - 1]? = some rs[rs.length - 1] := by rw [List.getElem?_eq_getElem]
          rw [hsome]
          dsimp only
          have hlo := c.low (rs.length - 1) _ hsome
          refine ⟨by omega, fun n hn => ?_⟩
          rcases hn with hn | ⟨j, hj, _, y, hy, y1, y2⟩
          · omega
          · by_cases hje : j = rs.length - 1
            · subst hje
              have hy' : rs[rs.length - 1]? = some y := hy
              rw [hsome] at hy'
              cases hy'
              exact y2
            · have := c.mono j (rs.length - 1) y _ (by omega) hy hsome
              omega
      refine ⟨rfl, hda, b', hag, ⟨⟨fun n e hf hge => ?_, fun n m e k hf hk hge hgk ho hok heq => ?_⟩, fun i e hf => ?_, hg.below, hg.base, hg.nt, hg.kept⟩, hlast.1⟩
      · obtain ⟨m1, m2, m3⟩ := hg.mem n e (viewOf_heap hf).1 hge
        exact ⟨hlast.2 n m1, m2, SV.okL_mono hlast.2 _ m3⟩
      · exact hg.inj n m e k (viewOf_heap hf).1 (viewOf_heap hk).1 hge hgk ho hok heq
      · obtain ⟨t1, t2⟩ := hg.tmps i e (viewOf_tmps hf).1
        exact ⟨fun hge => ⟨(t1 hge).1, SV.ok_mono hlast.2 _ (t1 hge).2⟩, t2⟩
    · unfold L
      have := List.length_filter_le (fun j => !false) (List.range ops.size)
      rw [List.length_range] at this
      exact this
  · cases hs
end Go.Proofs.Ytdfpenjhpemokaa.Sx
