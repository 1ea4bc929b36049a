/-
  A verified symbolic executor, part 15: one operation of a region.
-/
import Derived.Test.YtdfpenjhpemokaaSxN
set_option linter.unusedVariables false
set_option linter.unusedSimpArgs false
namespace Go.Proofs.Ytdfpenjhpemokaa.Sx
open Go.RowKit (Below)

def guardOf (ops : Array Oper) (S : St) (o : Oper) : Option (Option (List E)) :=
  match o.guard with
  | none => some (some [])
  | some (j, want) =>
    match ((ops[j]?).bind (·.dst)).bind (find S.tmps) with
    | some ⟨g, .bool e⟩ =>
      match e with
      | .bc b => if b = want then some (some g) else some none
      | e => some (some ((if want then e else mkNot e) :: g))
    | _ => none
theorem guardOf_ok {ops : Array Oper} {S : St} {o : Oper} {ρ : Env} {b : Bd} {base : Nat → Prop} {w0 w : World} {tm : Array Value} (h : Rel ρ b base w0 w S tm) {r : Option (List E)} (hg : guardOf ops S o = some r) :
    match r with
    | some G => Region.wanted o (yielded ops tm) = true ↔ allB ρ G
    | none => Region.wanted o (yielded ops tm) = false := by
  unfold guardOf at hg
  unfold Region.wanted
  split at hg
  · rename_i hn
    cases hg
    simp [hn, allB_nil]
  · rename_i j want hn
    rw [hn]
    split at hg
    · rename_i g e hf
      rw [Option.bind_eq_some_iff] at hf
      obtain ⟨d, hd, hf⟩ := hf
      obtain ⟨h1, h2⟩ := h.tmps d _ hf
      have hy1 : allB ρ g → yielded ops tm j = some (e.b ρ) := by
        intro hg'
        unfold yielded
        rw [hd]
        simp only [Option.bind_some, (h1 hg').1, SV.den]
      have hy2 : ¬ allB ρ g → yielded ops tm j = none := by
        intro hg'
        unfold yielded
        rw [hd]
        simp only [Option.bind_some, h2 hg', undef]
      split at hg
      · rename_i b'
        split at hg
        · rename_i hb
          cases hg
          by_cases hg' : allB ρ g
          · simp [hy1 hg', hg', E.b, hb]
          · simp [hy2 hg', hg']
        · rename_i hb
          cases hg
          by_cases hg' : allB ρ g
          · simp [hy1 hg', E.b, hb]
          · simp [hy2 hg']
      · cases hg
        have key : (if want = true then e else mkNot e).b ρ = true ↔ e.b ρ = want := by
          cases want <;> simp [mkNot_b]
        by_cases hg' : allB ρ g
        · simp only [hy1 hg', beq_iff_eq, Option.some.injEq]
          rw [← key]
          exact ⟨fun hk => allB_cons hk hg', fun hk => hk _ (.head _)⟩
        · simp only [hy2 hg']
          constructor
          · intro hc; simp at hc
          · intro hk; exact absurd (fun x hx => hk x (.tail _ hx)) hg'
    · cases hg

def St.setT (S : St) (dst : Option Tmp) (e : Ent) : St :=
  match dst with
  | some d => { S with tmps := push S.tmps d e }
  | none => S
theorem Rel.put {ρ : Env} {b : Bd} {base : Nat → Prop} {w0 w : World} {S : St} {a : Act} (h : Rel ρ b base w0 w S a.tmps) {dst : Option Tmp} (hd : ∀ d, dst = some d → d < S.nt) {e : Ent} {val : Value} (h1 : allB ρ e.g → val = e.sv.den ρ b ∧ e.sv.ok ρ (· < S.next)) (h2 : ¬ allB ρ e.g → val = undef) :
    Rel ρ b base w0 w (S.setT dst e) (a.put dst val).tmps := by
  cases dst with
  | none => exact h
  | some d =>
    have hlt := hd d rfl
    refine ⟨h.heap, fun i x hf => ?_, h.below, h.base, by simp [Act.put]; exact h.nt, h.kept⟩
    simp only [St.setT] at hf
    rw [find_push] at hf
    simp only [Act.put]
    split at hf
    · rename_i hi
      subst hi
      cases hf
      have hs : d < a.tmps.size := by rw [h.nt]; exact hlt
      refine ⟨fun hg => ?_, fun hg => ?_⟩
      · obtain ⟨e1, e2⟩ := h1 hg
        exact ⟨by rw [Array.getElem?_setIfInBounds_self, if_pos hs, e1], e2⟩
      · rw [Array.getElem?_setIfInBounds_self, if_pos hs, h2 hg]
    · rename_i hi
      have := h.tmps i x hf
      unfold Ent.at at this ⊢
      rw [Array.getElem?_setIfInBounds_ne hi]
      exact this
def dstOk (S : St) (o : Oper) : Bool :=
  match o.dst with
  | some d => decide (d < S.nt)
  | none => true
theorem dstOk_ok {S : St} {o : Oper} (h : dstOk S o = true) : ∀ d, o.dst = some d → d < S.nt := by
  intro d hd
  unfold dstOk at h
  rw [hd] at h
  simpa using h

def St.newG (S : St) (G : List E) (cells : List SV) (elem : TypeId) : St := { S with heap := push S.heap S.next ⟨G, ⟨cells, elem, .full⟩⟩, next := S.next + 1 }
/-- New blocks of a call, under a guard. -/
def newEnts (G : List E) (nx : Nat) (H : List (Nat × HEnt)) : List (Nat × HEnt) := restrict (fun n e => if decide (nx ≤ n) && e.g.isEmpty && e.blk.own then some ⟨G, e.blk⟩ else none) H H
/-- A call that sees the blocks that its arguments lead to. -/
def callFr (h : Handler) (pc : List E) (S : St) (dst : Option Tmp) (k : FuncId) (l : List SV) (V : List (Nat × HEnt)) : Option (T St × List VC) :=
  match h pc k l (selK (ledTo V l) V) S.next with
  | some (r, vs) => some (r.map fun c => ({ S with heap := joinH c.heap V (ledTo V l), next := c.next } : St).setT dst ⟨[], c.v⟩, vs)
  | none => none
/-- Does e hold where d does? -/
def E.impl : E → E → Bool
  | .bin .and a b, e => a.impl e || b.impl e || (E.bin .and a b).same e
  | d, e => d.same e
theorem E.impl_ok {ρ : Env} : ∀ {d e : E}, d.impl e = true → d.b ρ = true → e.b ρ = true := by
  intro d
  induction d with
  | bin o a b iha ihb =>
    intro e h hd
    cases o with
    | and =>
      simp only [E.impl, Bool.or_eq_true] at h
      have hd' := hd
      simp only [E.b, Bool.and_eq_true] at hd'
      rcases h with (h | h) | h
      · exact iha h hd'.1
      · exact ihb h hd'.2
      · rw [← E.same_eq h]; exact hd
    | _ => simp only [E.impl] at h; rw [← E.same_eq h]; exact hd
  | _ => intro e h hd; simp only [E.impl] at h; rw [← E.same_eq h]; exact hd
/-- An element of a given slice: its index is to be shown to be within. -/
def opI (P : Program) (pc G : List E) (S : St) (o : Oper) : Option (SV × List VC) :=
  match o.op with
  | .indexAddr t x i => match ev G S x, ev G S i, P.underlying t with
    | some (.osl k sh len), some (.int _ j), some (.slice e) =>
      match sh, sizeT P e with
      | c :: l, some n => if n = l.length + 1 then
          some (.optr k (c :: l) j 0, (if G.any (fun x => x.impl (mkLt j.e len.e)) || pc.any (fun x => x.impl (mkLt j.e len.e)) then [] else [⟨G ++ pc, mkLt j.e len.e⟩]) ++ (if 0 ≤ j.lo then [] else [⟨G ++ pc, .bin .le (.c 0) j.e⟩]))
        else none
      | _, _ => none
    | _, _, _ => none
  | _ => none
theorem opI_ok {P : Program} {pc G : List E} {S : St} {o : Oper} {v : SV} {vs : List VC} (ho : opI P pc G S o = some (v, vs)) {ρ : Env} {b : Bd} {base : Nat → Prop} {w0 w : World} {a : Act} (h : Rel ρ b base w0 w S a.tmps) (hG : allB ρ G) (hpc : allB ρ pc) (hv : allV ρ vs) :
    (execOp a.eval o).run P w = .ok (.value (v.den ρ b)) w ∧ v.ok ρ (· < S.next) := by
  unfold opI at ho
  split at ho
  · rename_i t x i hop
    split at ho
    · rename_i k sh len kd j e hx hi hu
      split at ho
      · rename_i c l n hs
        split at ho
        · rename_i hn
          cases ho
          rw [allV_app] at hv
          obtain ⟨e1, f1, f2, f3, _⟩ := ev_ok h hG hx
          obtain ⟨e2, f4⟩ := ev_ok h hG hi
          have hA : allB ρ (G ++ pc) := fun x hx => (List.mem_append.1 hx).elim (hG x) (hpc x)
          have hlt : j.e.i ρ < len.e.i ρ := by
            have key : (mkLt j.e len.e).b ρ = true := by
              have := hv.1
              split at this
              · rename_i hc
                rw [Bool.or_eq_true, List.any_eq_true, List.any_eq_true] at hc
                rcases hc with ⟨y, hy, hyy⟩ | ⟨y, hy, hyy⟩
                · exact E.impl_ok hyy (hG y hy)
                · exact E.impl_ok hyy (hpc y hy)
              · exact this _ (.head _) hA
            rw [mkLt_b] at key
            simpa using key
          have h0 : 0 ≤ j.e.i ρ := by
            have := hv.2
            split at this
            · rename_i hc; have := f4.1; omega
            · have := this _ (.head _) hA
              simp only [E.b, E.i] at this
              exact of_decide_eq_true this
          have hel := f3 (j.e.i ρ).toNat (by omega)
          obtain ⟨hmv, _⟩ := hel 0 c rfl
          obtain ⟨p, off, g1, _, _⟩ := h.kept.1 k _ _ hmv
          have hl2 : j.e.i ρ < ((len.e.i ρ).toNat : Int) := by omega
          refine ⟨?_, f4, h0, hel, p, off, g1⟩
          simp only [execOp, hop, e1, e2, SV.den, g1]
          simp [Instr.indexAt, run_underlying hu, asIntOf, run_sizeOf hs, h0, hl2, hn]
          unfold Addr.add
          split <;> simp_all
        · cases ho
      · cases ho
    · cases ho
  · cases ho
/-- One operation. -/
def stepOp (P : Program) (et : TypeId) (h : Handler) (pc : List E) (ops : Array Oper) (S : St) (o : Oper) : Option (T St × List VC) :=
  if dstOk S o then
    match guardOf ops S o with
    | none => none
    | some none => some (.leaf (S.setT o.dst ⟨[], .con undef⟩), [])
    | some (some G) =>
      match opU P et G S o with
      | some v => v.nmS bigK fun v vs => some (.leaf (S.setT o.dst ⟨G, v⟩), vs)
      | none =>
        match opN P G S o with
        | some (v, cells, elem) => some (.leaf ((S.newG G cells elem).setT o.dst ⟨G, v⟩), [])
        | none => match opI P pc G S o with
         | some (v, vs) => some (.leaf (S.setT o.dst ⟨G, v⟩), vs)
         | none =>
          if G.isEmpty then
            match opW P [] S o with
            | some (v, S') => if S'.nt = S.nt then some (.leaf (S'.setT o.dst ⟨[], v⟩), []) else none
            | none => match callTarget P [] S o with
              | some (k, l) => callFr h pc S o.dst k l (visF S.heap)
              | none => none
          else
            match callTarget P G S o with
            | some (k, l) => match h (G ++ pc) k l (farH G (selK (ledTo S.heap l) S.heap)) S.next with
              | some (.leaf c, vs) => if S.next ≤ c.next then some (.leaf (({ S with heap := newEnts G S.next c.heap ++ S.heap, next := c.next } : St).setT o.dst ⟨G, c.v⟩), vs) else none
              | _ => none
            | none => none
  else none
theorem allB_app {ρ : Env} {l m : List E} (h : allB ρ l) (k : allB ρ m) : allB ρ (l ++ m) := fun x hx => (List.mem_append.1 hx).elim (h x) (k x)
theorem Blk.ok.down {ρ : Env} {b : Bd} {base base' : Nat → Prop} {w : World} {n : Nat} {B : Blk} (h : B.ok ρ b base' w n) (ho : B.own = true) (hb : ∀ k, base k → base' k) : B.ok ρ b base w n := by
  unfold Blk.ok at h ⊢
  unfold Blk.own at ho
  split at h
  · exact ⟨h.1, fun hc => h.2.1 (hb _ hc), h.2.2⟩
  · exact ⟨h.1, fun hc => h.2.1 (hb _ hc), h.2.2⟩
  · simp_all
/-- The blocks behind a call that only read, or did not run. -/
theorem HRel.called {ρ : Env} {b b' : Bd} {base : Nat → Prop} {w w' : World} {H H' : List (Nat × HEnt)} {nx nx' : Nat} {G : List E} (h : HRel ρ b base w H (· < nx)) (hb : Agree b b' (· < nx)) (hbase : (∀ k, base k → k < w.heap.size)) (hle : nx ≤ nx') (hbel : Kept (· < w.heap.size) w w')
    (hc : allB ρ G → HRel ρ b' (· < w.heap.size) w' H' (· < nx')) : HRel ρ b' base w' (newEnts G nx H' ++ H) (· < nx') := by
  have hm := h.mono (w' := w') (M := (· < nx')) hb (fun n hn => Nat.lt_of_lt_of_le hn hle) (fun k hk => hbel.block k hk) hbase
  have key : ∀ n e, find (newEnts G nx H' ++ H) n = some e → allB ρ e.g → (∃ x, find H' n = some x ∧ nx ≤ n ∧ x.g = [] ∧ x.blk.own = true ∧ e.blk = x.blk ∧ allB ρ G) ∨ find H n = some e := by
    intro n e hf hg
    rw [find_app] at hf
    split at hf
    · rename_i y hy
      cases hf
      obtain ⟨x, h1, h2⟩ := restrict_mem (find_mem hy)
      split at h2
      · rename_i hcnd
        cases h2
        simp only [Bool.and_eq_true, decide_eq_true_eq] at hcnd
        exact .inl ⟨x, h1, hcnd.1.1, by simpa using hcnd.1.2, hcnd.2, rfl, hg⟩
      · cases h2
    · exact .inr hf
  constructor
  · intro n e hf hg
    rcases key n e hf hg with ⟨x, h1, h2, h3, h4, h5, h6⟩ | hf'
    · obtain ⟨m1, m2, m3⟩ := (hc h6).mem n x h1 (by rw [h3]; exact allB_nil ρ)
      rw [h5]
      exact ⟨m1, m2.down h4 hbase, m3⟩
    · exact hm.mem n e hf' hg
  · intro n m e k hf hk hg hgk ho hok heq
    rcases key n e hf hg with ⟨x, h1, h2, h3, h4, h5, h6⟩ | hf'
    · rcases key m k hk hgk with ⟨y, k1, k2, k3, k4, k5, k6⟩ | hk'
      · exact (hc h6).inj n m x y h1 k1 (by rw [h3]; exact allB_nil ρ) (by rw [k3]; exact allB_nil ρ) h4 k4 heq
      · exfalso
        have e1 := (((hc h6).mem n x h1 (by rw [h3]; exact allB_nil ρ)).2.1.base h4).1
        obtain ⟨m1, m2, _⟩ := h.mem m k hk' hgk
        have e2 := m2.lt hbase
        rw [(hb m m1).1] at heq
        exact e1 (heq ▸ e2)
    · rcases key m k hk hgk with ⟨y, k1, k2, k3, k4, k5, k6⟩ | hk'
      · exfalso
        have e1 := (((hc k6).mem m y k1 (by rw [k3]; exact allB_nil ρ)).2.1.base k4).1
        obtain ⟨m1, m2, _⟩ := h.mem n e hf' hg
        have e2 := m2.lt hbase
        rw [(hb n m1).1] at heq
        exact e1 (heq ▸ e2)
      · exact hm.inj n m e k hf' hk' hg hgk ho hok heq

theorem stepOp_ok {P : Program} {et : TypeId} {h : Handler} {ρ : Env} (he : ρ.et = et) (hh : HOK P ρ h) {pc : List E} {ops : Array Oper} {S : St} {o : Oper} {t : T St} {vs : List VC} (hs : stepOp P et h pc ops S o = some (t, vs)) (hpc : allB ρ pc) (hv : allV ρ vs)
    {b : Bd} {base : Nat → Prop} {w0 w : World} {a : Act} (hr : Rel ρ b base w0 w S a.tmps) {i : Nat} (hi : ops[i]? = some o) {Q : Exit → Act → World → Prop} {K : Act → World → Prop}
    (hk : ∀ b' w' val, Agree b b' (· < S.next) → Rel ρ b' base w0 w' (t.at ρ) (a.put o.dst val).tmps → S.next ≤ (t.at ρ).next → K (a.put o.dst val) w') : wpOp P ops Q i K a w := by
  unfold stepOp at hs
  split at hs
  · rename_i hdst
    have hd := dstOk_ok hdst
    have hnext : ∀ (U : St) (e : Ent), (U.setT o.dst e).next = U.next := by intro U e; cases o.dst <;> rfl
    unfold wpOp
    rw [hi]
    dsimp only
    split at hs
    · cases hs
    · rename_i hg
      have := guardOf_ok hr hg
      dsimp only at this
      rw [this]
      cases hs
      refine hk b w _ (Agree.refl b _) (hr.put hd (fun _ => ⟨rfl, trivial⟩) (fun hn => absurd (allB_nil ρ) hn)) (by rw [T.at, hnext]; exact Nat.le_refl _)
    · rename_i G hg
      have hw := guardOf_ok hr hg
      dsimp only at hw
      split at hs
      · rename_i v hov
        rw [SV.nmS_eq] at hs
        cases hs
        split
        · rename_i hwt
          have hG := hw.1 hwt
          obtain ⟨e1, e2⟩ := opU_ok he hr hG hov
          have e3 := SV.sc_ok b hv e2
          refine .inl (leaves_wp (.inl e1) ?_)
          exact hk b w _ (Agree.refl b _) (hr.put hd (fun _ => ⟨e3.1.symm, e3.2⟩) (fun hn => absurd hG hn)) (by rw [T.at, hnext]; exact Nat.le_refl _)
        · rename_i hwt
          have hG : ¬ allB ρ G := fun hc => hwt (hw.2 hc)
          exact hk b w _ (Agree.refl b _) (hr.put hd (fun hc => absurd hc hG) (fun _ => rfl)) (by rw [T.at, hnext]; exact Nat.le_refl _)
      · split at hs
        · rename_i v cells elem hon
          cases hs
          split
          · rename_i hwt
            have hG := hw.1 hwt
            obtain ⟨e1, e2, e3⟩ := opN_ok hr hG hon
            obtain ⟨ha, hrel⟩ := hr.new e2 elem
            refine .inl (leaves_wp e1 ?_)
            have hrel2 : Rel ρ (b.put S.next w.heap.size 0 0) base w0 (w.alloc (.cells (SV.denL ρ b cells).toArray elem)) (S.newG G cells elem) a.tmps := by
              refine ⟨hrel.heap.partF fun n e hf _ => ?_, hrel.tmps, hrel.below, hrel.base, hrel.nt, hrel.kept⟩
              simp only [St.newG] at hf
              rw [find_push] at hf
              simp only [St.new]
              rw [find_push]
              split at hf
              · rename_i hn
                cases hf
                rw [if_pos hn]
                exact ⟨_, rfl, rfl, allB_nil ρ⟩
              · rename_i hn
                rw [if_neg hn]
                exact ⟨e, hf, rfl, by assumption⟩
            exact hk _ _ _ ha (hrel2.put hd (fun _ => ⟨rfl, e3⟩) (fun hn => absurd hG hn)) (by rw [T.at, hnext]; exact Nat.le_succ _)
          · rename_i hwt
            have hG : ¬ allB ρ G := fun hc => hwt (hw.2 hc)
            have hrel2 : Rel ρ b base w0 w (S.newG G cells elem) a.tmps := by
              have hm := hr.heap.mono (w' := w) (M := (· < S.next + 1)) (Agree.refl b _) (fun n h => Nat.lt_succ_of_lt h) (fun _ _ => rfl) hr.base
              refine ⟨hm.partF fun n e hf hge => ?_, tmps_put hr.tmps (Agree.refl b _) (fun n h => Nat.lt_succ_of_lt h), hr.below, hr.base, hr.nt, hr.kept⟩
              simp only [St.newG] at hf
              rw [find_push] at hf
              split at hf
              · cases hf; exact absurd hge hG
              · exact ⟨e, hf, rfl, hge⟩
            exact hk b w _ (Agree.refl b _) (hrel2.put hd (fun hc => absurd hc hG) (fun _ => rfl)) (by rw [T.at, hnext]; exact Nat.le_succ _)
        · split at hs
          · rename_i v vs' hoi
            cases hs
            split
            · rename_i hwt
              have hG := hw.1 hwt
              obtain ⟨e1, e2⟩ := opI_ok hoi hr hG hpc hv
              refine .inl (leaves_wp (.inl e1) ?_)
              exact hk b w _ (Agree.refl b _) (hr.put hd (fun _ => ⟨rfl, e2⟩) (fun hn => absurd hG hn)) (by rw [T.at, hnext]; exact Nat.le_refl _)
            · rename_i hwt
              have hG : ¬ allB ρ G := fun hc => hwt (hw.2 hc)
              exact hk b w _ (Agree.refl b _) (hr.put hd (fun hc => absurd hc hG) (fun _ => rfl)) (by rw [T.at, hnext]; exact Nat.le_refl _)
          split at hs
          · rename_i hGe
            have hGe' : G = [] := by simpa using hGe
            subst hGe'
            rw [if_pos (hw.2 (allB_nil ρ))]
            split at hs
            · rename_i v S' how
              split at hs
              · rename_i hnt
                cases hs
                obtain ⟨b', w', e1, e2, e3, e4, e5⟩ := opW_ok hr (allB_nil ρ) how
                refine .inl (leaves_wp e1 ?_)
                exact hk b' w' _ e2 (e3.put (fun d hd' => by rw [hnt]; exact hd d hd') (fun _ => ⟨rfl, e4⟩) (fun hn => absurd (allB_nil ρ) hn)) (by rw [T.at, hnext]; exact e5)
              · cases hs
            · split at hs
              · rename_i k l hct
                unfold callFr at hs
                split at hs
                · rename_i r vs' hhr
                  cases hs
                  obtain ⟨e1, e2⟩ := callTarget_ok hct hr (allB_nil ρ)
                  have hV := hr.heap.visF
                  have hFb : ∀ k, base k → FrP ρ b base w (visF S.heap) (ledTo (visF S.heap) l) k := fun k hk => .inl hk
                  have hFl : ∀ k, FrP ρ b base w (visF S.heap) (ledTo (visF S.heap) l) k → k < w.heap.size := fun k hk => hk.elim (hr.base k) (fun x => x.1)
                  have hcall := hh _ _ _ _ _ _ _ hhr hpc hv b (FrP ρ b base w (visF S.heap) (ledTo (visF S.heap) l)) w w (hV.split _) ((hr.kept.kept hr.below).mono hFb) (Kept.refl _ _) hFl e2
                  left
                  unfold Oper.wp
                  rw [e1]
                  refine hcall.mono ?_
                  rintro e w' ⟨b', rfl, c1, c2, c3, c4, c5, c6⟩
                  refine hk b' w' _ c1 ?_ (by rw [T.map_at, hnext]; exact c6)
                  rw [T.map_at]
                  have hrel2 : Rel ρ b' base w0 w' ({ S with heap := joinH (r.at ρ).heap (visF S.heap) (ledTo (visF S.heap) l), next := (r.at ρ).next } : St) a.tmps :=
                    ⟨hV.join hr.base c1 (fun n h => Nat.lt_of_lt_of_le h c6) c4 c2, tmps_put hr.tmps c1 (fun n h => Nat.lt_of_lt_of_le h c6), hr.below.trans (c4.mono hFb), fun k hk => Nat.lt_of_lt_of_le (hr.base k hk) c4.size, hr.nt, hr.kept⟩
                  exact hrel2.put hd (fun _ => ⟨rfl, c3⟩) (fun hn => absurd (allB_nil ρ) hn)
                · cases hs
              · cases hs
          · split at hs
            · rename_i k l hct
              split at hs
              · rename_i c vs' hhr
                split at hs
                · rename_i hnx
                  cases hs
                  split
                  · rename_i hwt
                    have hG := hw.1 hwt
                    obtain ⟨e1, e2⟩ := callTarget_ok hct hr hG
                    have hcall := hh _ _ _ _ _ _ _ hhr (allB_app hG hpc) hv b (· < w.heap.size) w w ((hr.heap.partF fun n e hf hg => by
                      rw [find_selK] at hf
                      split at hf
                      · exact ⟨e, hf, rfl, hg⟩
                      · cases hf).far hG hr.base) ((hr.kept.kept hr.below).mono hr.base) (Kept.refl _ _) (fun _ h => h) e2
                    left
                    unfold Oper.wp
                    rw [e1]
                    refine hcall.mono ?_
                    rintro e w' ⟨b', rfl, c1, c2, c3, c4, c5, c6⟩
                    simp only [T.at] at c2 c3 c6 ⊢
                    refine hk b' w' _ c1 ?_ (by rw [T.at, hnext]; exact c6)
                    have hrel2 : Rel ρ b' base w0 w' ({ S with heap := newEnts G S.next c.heap ++ S.heap, next := c.next } : St) a.tmps :=
                      ⟨hr.heap.called c1 hr.base c6 c4 (fun _ => c2), tmps_put hr.tmps c1 (fun n h => Nat.lt_of_lt_of_le h c6), hr.below.trans (c4.mono hr.base), fun k hk => Nat.lt_of_lt_of_le (hr.base k hk) c4.size, hr.nt, hr.kept⟩
                    exact hrel2.put hd (fun _ => ⟨rfl, c3⟩) (fun hn => absurd hG hn)
                  · rename_i hwt
                    have hG : ¬ allB ρ G := fun hc => hwt (hw.2 hc)
                    have hrel2 : Rel ρ b base w0 w ({ S with heap := newEnts G S.next c.heap ++ S.heap, next := c.next } : St) a.tmps :=
                      ⟨hr.heap.called (Agree.refl b _) hr.base hnx (Kept.refl _ _) (fun hc => absurd hc hG), tmps_put hr.tmps (Agree.refl b _) (fun n h => Nat.lt_of_lt_of_le h hnx), hr.below, hr.base, hr.nt, hr.kept⟩
                    exact hk b w _ (Agree.refl b _) (hrel2.put hd (fun hc => absurd hc hG) (fun _ => rfl)) (by rw [T.at, hnext]; exact hnx)
                · cases hs
              · cases hs
            · cases hs
  · cases hs
end Go.Proofs.Ytdfpenjhpemokaa.Sx
