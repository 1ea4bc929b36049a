/-
  A verified symbolic executor, part 19: regions whose order is drawn: one operation more.
-/
import Derived.Test.YtdfpenjhpemokaaSxR
set_option linter.unusedVariables false
set_option linter.unusedSimpArgs false
namespace Go.Proofs.Ytdfpenjhpemokaa.Sx
open Go.RowKit (Below)

structure GRel (ρ : Env) (b : Bd) (bs : Nat → Prop) (w0 w : World) (Tm : Nat → Option Ent) (Hp : Nat → Option HEnt) (N : Nat → Prop) (tm : Array Value) (nt : Nat) : Prop where
  mem : ∀ n h, Hp n = some h → allB ρ h.g → N n ∧ h.blk.ok ρ b bs w n ∧ SV.okL ρ N h.blk.cells
  inj : ∀ n m h k, Hp n = some h → Hp m = some k → allB ρ h.g → allB ρ k.g → h.blk.own = true → k.blk.own = true → b.β n = b.β m → n = m
  tmps : ∀ i e, Tm i = some e → e.at ρ b N tm i
  below : Kept bs w0 w
  base : ∀ k, bs k → k < w.heap.size
  nt : tm.size = nt
  kept : Mem ρ bs w0
/-- What an operation that sees V alone leaves as it is. -/
def Fr (ρ : Env) (b : Bd) (base : Nat → Prop) (w : World) (V : St) : Nat → Prop := fun k => base k ∨ (k < w.heap.size ∧ ∀ n h, find V.heap n = some h → allB ρ h.g → h.blk.own = true → b.β n ≠ k)
def viewChk (V : St) : Bool :=
  V.heap.all (fun x => decide (x.1 < V.next) && (SV.namesL x.2.blk.cells).all fun m => decide (m < V.next)) && V.tmps.all (fun x => x.2.sv.names.all fun m => decide (m < V.next))
theorem GRel.view {ρ : Env} {b : Bd} {base : Nat → Prop} {w0 w : World} {Tm : Nat → Option Ent} {Hp : Nat → Option HEnt} {N : Nat → Prop} {tm : Array Value} {nt : Nat} (h : GRel ρ b base w0 w Tm Hp N tm nt) {V : St} (hT : ∀ t e, find V.tmps t = some e → Tm t = some e) (hH : ∀ n e, find V.heap n = some e → Hp n = some e) (hn : V.nt = nt) (hc : viewChk V = true) :
    Rel ρ b (Fr ρ b base w V) w w V tm := by
  unfold viewChk at hc
  simp only [Bool.and_eq_true, List.all_eq_true, decide_eq_true_eq] at hc
  obtain ⟨c1, c2⟩ := hc
  refine ⟨⟨fun n e hf hg => ?_, fun n m e k hf hk hg hgk ho hok heq => h.inj n m e k (hH n e hf) (hH m k hk) hg hgk ho hok heq⟩, fun t e hf => ?_, Kept.refl _ _, fun k hk => hk.elim (h.base k) (fun x => x.1), h.nt.trans hn.symm, (h.kept.kept h.below).mono fun k hk => .inl hk⟩
  · obtain ⟨m1, m2, m3⟩ := h.mem n e (hH n e hf) hg
    have hm := c1 _ (find_mem hf)
    refine ⟨hm.1, m2.turn (fun ho hF => ?_) (fun ho => .inl (m2.farBase ho)), SV.okL_names _ m3 hm.2⟩
    rcases hF with hF | hF
    · exact (m2.base ho).1 hF
    · exact hF.2 n e hf hg ho rfl
  · obtain ⟨h1, h2⟩ := h.tmps t e (hT t e hf)
    refine ⟨fun hg => ⟨(h1 hg).1, SV.ok_names _ (h1 hg).2 (fun m hm => c2 _ (find_mem hf) m hm)⟩, h2⟩

/-- Bindings of new names joined to the old ones. -/
def Bd.join (b b' : Bd) (lo hi : Nat) : Bd := ⟨fun n => if lo ≤ n ∧ n < hi then b'.β n else b.β n, fun n => if lo ≤ n ∧ n < hi then b'.o n else b.o n, fun n => if lo ≤ n ∧ n < hi then b'.κ n else b.κ n⟩
theorem Bd.join_old {b b' : Bd} {lo hi : Nat} {N : Nat → Prop} (h : ∀ n, N n → ¬ (lo ≤ n ∧ n < hi)) : Agree b (b.join b' lo hi) N := by
  intro n hn
  simp [Bd.join, h n hn]
theorem Bd.join_new {b b' : Bd} {lo hi : Nat} (h : Agree b b' (· < lo)) : Agree b' (b.join b' lo hi) (· < hi) := by
  intro n hn
  unfold Bd.join
  by_cases hl : lo ≤ n
  · have : lo ≤ n ∧ n < hi := ⟨hl, hn⟩
    simp [this]
  · have : ¬ (lo ≤ n ∧ n < hi) := fun hc => hl hc.1
    obtain ⟨h1, h2, h3⟩ := h n (Nat.lt_of_not_le hl)
    simp [this, h1, h2, h3]

theorem GRel.step {ρ : Env} {b b' : Bd} {base : Nat → Prop} {w0 w w' : World} {Tm Tm' : Nat → Option Ent} {Hp Hp' : Nat → Option HEnt} {N N' : Nat → Prop} {a : Act} {nt : Nat} (h : GRel ρ b base w0 w Tm Hp N a.tmps nt)
    {V U : St} (hV : ∀ n e, find V.heap n = some e → Hp n = some e) {dst : Option Tmp} {val : Value} (hag : Agree b b' (· < V.next)) (hr : Rel ρ b' (Fr ρ b base w V) w w' U (a.put dst val).tmps) (hle : V.next ≤ U.next) (hVn : ∀ n e, find V.heap n = some e → n < V.next)
    (hT : ∀ t e, Tm' t = some e → (dst = some t ∧ find U.tmps t = some e ∧ ∀ m ∈ e.sv.names, N' m) ∨ (dst ≠ some t ∧ Tm t = some e))
    (hH : ∀ n e, Hp' n = some e → allB ρ e.g →
      (V.next ≤ n ∧ find U.heap n = some e ∧ e.blk.own = true ∧ ∀ m ∈ SV.namesL e.blk.cells, N' m)
      ∨ (∃ e0 u, find V.heap n = some e0 ∧ allB ρ e0.g ∧ e0.blk.own = true ∧ find U.heap n = some u ∧ allB ρ u.g ∧ u.blk.kind = e0.blk.kind ∧ u.blk.elem = e0.blk.elem ∧ e.blk = u.blk ∧ ∀ m ∈ SV.namesL e.blk.cells, N' m)
      ∨ (Hp n = some e ∧ ∀ e0, find V.heap n = some e0 → e0.blk.own = false))
    (hN1 : ∀ n, N n → N' n) (hN2 : ∀ n, V.next ≤ n → n < U.next → N' n) (hN3 : ∀ n, N n → ¬ (V.next ≤ n ∧ n < U.next)) (hnt : (a.put dst val).tmps.size = a.tmps.size) :
    GRel ρ (b.join b' V.next U.next) base w0 w' Tm' Hp' N' (a.put dst val).tmps nt := by
  have ho : Agree b (b.join b' V.next U.next) N := Bd.join_old hN3
  have hn := Bd.join_new (hi := U.next) hag
  have hlt : ∀ n e, Hp n = some e → allB ρ e.g → b.β n < w.heap.size := fun n e hf hg => (h.mem n e hf hg).2.1.lt h.base
  -- a block that is not seen stays
  have hkeep : ∀ n e, Hp n = some e → allB ρ e.g → (∀ e0, find V.heap n = some e0 → e0.blk.own = false) → Fr ρ b base w V (b.β n) := by
    intro n e hf hg hs
    by_cases hown : e.blk.own = true
    · refine .inr ⟨hlt n e hf hg, fun m k hk hgk hok heq => ?_⟩
      have := h.inj m n k e (hV m k hk) hf hgk hg hok hown heq
      subst this
      rw [hs k hk] at hok
      cases hok
    · exact .inl ((h.mem n e hf hg).2.1.farBase (by simpa using hown))
  -- where a name of the new state lies
  have hcase : ∀ n e, Hp' n = some e → allB ρ e.g → N' n ∧ e.blk.ok ρ (b.join b' V.next U.next) base w' n ∧ SV.okL ρ N' e.blk.cells := by
    intro n e hf hg
    rcases hH n e hf hg with ⟨h1, h2, h3, h4⟩ | ⟨e0, u, h1, h2, h3, h4, h5, h6, h7, h8, h9⟩ | ⟨h1, h2⟩
    · obtain ⟨m1, m2, m3⟩ := hr.heap.mem n e h2 hg
      have hb := m2.base h3
      refine ⟨hN2 n h1 m1, ?_, SV.okL_names _ m3 h4⟩
      have := m2.keep m1 m3 hn rfl
      refine this.turn (fun _ hc => ?_) (fun hc => by rw [h3] at hc; cases hc)
      rw [(hn n m1).1] at hc
      exact hb.1 (.inl hc)
    · obtain ⟨m1, m2, m3⟩ := hr.heap.mem n u h4 h5
      have huo : u.blk.own = true := by simpa [Blk.own, h6] using h3
      have hb := m2.base huo
      have hNn : N n := (h.mem n e0 (hV n e0 h1) h2).1
      rw [h8] at h9 ⊢
      refine ⟨hN1 n hNn, ?_, SV.okL_names _ m3 h9⟩
      have := m2.keep m1 m3 hn rfl
      refine this.turn (fun _ hc => ?_) (fun hc => by rw [huo] at hc; cases hc)
      rw [(hn n m1).1] at hc
      exact hb.1 (.inl hc)
    · obtain ⟨m1, m2, m3⟩ := h.mem n e h1 hg
      exact ⟨hN1 n m1, m2.keep m1 m3 ho (hr.below.block _ (hkeep n e h1 hg h2)), SV.okL_mono hN1 _ m3⟩
  refine ⟨hcase, ?_, ?_, h.below.trans (hr.below.mono fun k hk => .inl hk), fun k hk => Nat.lt_of_lt_of_le (h.base k hk) hr.below.size, hnt.trans h.nt, h.kept⟩
  · -- no two names for one block
    have hseen : ∀ n e, Hp' n = some e → allB ρ e.g → e.blk.own = true → (∃ u, find U.heap n = some u ∧ allB ρ u.g ∧ u.blk.own = true ∧ n < U.next) ∨ (Hp n = some e ∧ ∀ e0, find V.heap n = some e0 → e0.blk.own = false) := by
      intro n e hf hg hoe
      rcases hH n e hf hg with ⟨h1, h2, h3, _⟩ | ⟨e0, u, h1, h2, h3, h4, h5, h6, h7, h8, _⟩ | h1
      · exact .inl ⟨e, h2, hg, h3, (hr.heap.mem n e h2 hg).1⟩
      · exact .inl ⟨u, h4, h5, by simpa [Blk.own, h6] using h3, (hr.heap.mem n u h4 h5).1⟩
      · exact .inr h1
    have hdiff : ∀ n u m e, find U.heap n = some u → allB ρ u.g → u.blk.own = true → n < U.next → Hp m = some e → allB ρ e.g → (∀ e0, find V.heap m = some e0 → e0.blk.own = false) → (b.join b' V.next U.next).β n ≠ (b.join b' V.next U.next).β m := by
      intro n u m e hu hgu hou hnu hm hgm hs heq
      have hb := (hr.heap.mem n u hu hgu).2.1.base hou
      rw [(hn n hnu).1, (ho m (h.mem m e hm hgm).1).1] at heq
      exact hb.1 (heq ▸ hkeep m e hm hgm hs)
    intro n m e k hf hk hg hgk hoe hok heq
    rcases hseen n e hf hg hoe with ⟨u, u1, u2, u3, u4⟩ | ⟨p1, p2⟩
    · rcases hseen m k hk hgk hok with ⟨v, v1, v2, v3, v4⟩ | ⟨q1, q2⟩
      · rw [(hn n u4).1, (hn m v4).1] at heq
        exact hr.heap.inj n m u v u1 v1 u2 v2 u3 v3 heq
      · exact absurd heq (hdiff n u m k u1 u2 u3 u4 q1 hgk q2)
    · rcases hseen m k hk hgk hok with ⟨v, v1, v2, v3, v4⟩ | ⟨q1, q2⟩
      · exact absurd heq.symm (hdiff m v n e v1 v2 v3 v4 p1 hg p2)
      · rw [(ho n (h.mem n e p1 hg).1).1, (ho m (h.mem m k q1 hgk).1).1] at heq
        exact h.inj n m e k p1 q1 hg hgk hoe hok heq
  · intro t e hf
    rcases hT t e hf with ⟨h1, h2, h3⟩ | ⟨h1, h2⟩
    · obtain ⟨t1, t2⟩ := hr.tmps t e h2
      refine ⟨fun hg => ?_, t2⟩
      obtain ⟨t3, t4⟩ := t1 hg
      exact ⟨by rw [SV.den_agree hn _ t4]; exact t3, SV.ok_names _ t4 h3⟩
    · have hsame : (a.put dst val).tmps[t]? = a.tmps[t]? := by
        cases dst with
        | none => rfl
        | some d =>
          simp only [Act.put]
          rw [Array.getElem?_setIfInBounds_ne (fun hc => h1 (by rw [hc]))]
      obtain ⟨t1, t2⟩ := h.tmps t e h2
      refine ⟨fun hg => ?_, fun hg => by rw [hsame]; exact t2 hg⟩
      obtain ⟨t3, t4⟩ := t1 hg
      exact ⟨by rw [hsame, SV.den_agree ho _ t4]; exact t3, SV.ok_mono hN1 _ t4⟩
end Go.Proofs.Ytdfpenjhpemokaa.Sx
