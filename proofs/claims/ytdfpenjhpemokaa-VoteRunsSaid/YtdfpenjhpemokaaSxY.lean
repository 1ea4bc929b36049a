/-
  A verified symbolic executor: a state taken as another one, its names read anew; loops by what holds at each round.
-/
import Derived.Test.YtdfpenjhpemokaaSxX
set_option linter.unusedVariables false
set_option linter.unusedSimpArgs false
namespace Go.Proofs.Ytdfpenjhpemokaa.Sx
open Go.RowKit (Below)

/-- What names of numbers and of booleans are to stand for. -/
structure Sub where
  i : List (Nat × E)
  b : List (Nat × E)
def E.sub (σ : Sub) : E → E
  | .v n => (find σ.i n).getD (.v n)
  | .bv n => (find σ.b n).getD (.bv n)
  | .un o a => .un o (a.sub σ)
  | .bin o a b => .bin o (a.sub σ) (b.sub σ)
  | .ite d a b => .ite (d.sub σ) (a.sub σ) (b.sub σ)
  | .ap k a => .ap k (a.sub σ)
  | .cons a b => .cons (a.sub σ) (b.sub σ)
  | e => e
/-- Has no list of its own in the place of a name. -/
structure Reads (σ : Sub) (ρ ρ' : Env) : Prop where
  iv : ∀ n, n < base0 → ρ'.iv n = match find σ.i n with | some e => e.i ρ | none => ρ.iv n
  bv : ∀ n, n < base0 → ρ'.bv n = match find σ.b n with | some e => e.b ρ | none => ρ.bv n
  fn : ρ'.fn = ρ.fn
  fb : ρ'.fb = ρ.fb
  et : ρ'.et = ρ.et
  ov : ρ'.ov = ρ.ov
  fl : ρ'.fl = ρ.fl
  mv : ρ'.mv = ρ.mv
  es : ρ'.es = ρ.es
  mn : ρ'.mn = ρ.mn
  ol : ρ'.ol = ρ.ol
def Env.sub (σ : Sub) (ρ : Env) : Env := { ρ with iv := fun n => match find σ.i n with | some e => e.i ρ | none => ρ.iv n, bv := fun n => match find σ.b n with | some e => e.b ρ | none => ρ.bv n }
theorem Reads.of {σ : Sub} {ρ ρ' : Env} (h : Same (ρ.sub σ) ρ' [] []) : Reads σ ρ ρ' :=
  ⟨fun n hn => h.iv n (.inl hn), fun n hn => h.bv n (.inl hn), h.fn, h.fb, h.et, h.ov, h.fl, h.mv, h.es, h.mn, h.ol⟩
/-- Is it, read as a number (0), a boolean (1), a list (2), made of small names alone? -/
def E.sm : E → Nat → Bool
  | .v n, 0 => Nat.blt n base0
  | .c _, 0 => true
  | .un (.wrap _) a, 0 => a.sm 0
  | .bin .add a b, 0 | .bin .sub a b, 0 | .bin .mul a b, 0 | .bin .quo a b, 0 | .bin .rem a b, 0 | .bin .div a b, 0 | .bin .mod a b, 0 | .bin .min a b, 0 | .bin .max a b, 0 => a.sm 0 && b.sm 0
  | .ite d a b, 0 => d.sm 1 && a.sm 0 && b.sm 0
  | .ap _ a, 0 => a.sm 2
  | .bv n, 1 => Nat.blt n base0
  | .bc _, 1 => true
  | .un .not a, 1 => a.sm 1
  | .bin .lt a b, 1 | .bin .le a b, 1 | .bin .eq a b, 1 => a.sm 0 && b.sm 0
  | .bin .and a b, 1 | .bin .or a b, 1 => a.sm 1 && b.sm 1
  | .ite d a b, 1 => d.sm 1 && a.sm 1 && b.sm 1
  | .ap _ a, 1 => a.sm 2
  | .nil, 2 => true
  | .cons a b, 2 => a.sm 0 && b.sm 2
  | .ap _ a, 2 => a.sm 2
  | .bin .app a b, 2 => a.sm 2 && b.sm 2
  | .ite d a b, 2 => d.sm 1 && a.sm 2 && b.sm 2
  | _, _ => false
theorem E.sub_ok {σ : Sub} {ρ ρ' : Env} (h : Reads σ ρ ρ') : (e : E) → (e.sm 0 = true → e.i ρ' = (e.sub σ).i ρ) ∧ (e.sm 1 = true → e.b ρ' = (e.sub σ).b ρ) ∧ (e.sm 2 = true → e.l ρ' = (e.sub σ).l ρ) := by
  intro e
  induction e with
  | v n =>
    refine ⟨fun hs => ?_, fun hs => (by simp [E.sm] at hs), fun hs => (by simp [E.sm] at hs)⟩
    simp only [E.i, E.sub, h.iv n (blt_lt (by simpa [E.sm] using hs))]
    cases find σ.i n <;> rfl
  | bv n =>
    refine ⟨fun hs => (by simp [E.sm] at hs), fun hs => ?_, fun hs => (by simp [E.sm] at hs)⟩
    simp only [E.b, E.sub, h.bv n (blt_lt (by simpa [E.sm] using hs))]
    cases find σ.b n <;> rfl
  | c z => exact ⟨fun _ => rfl, fun _ => rfl, fun _ => rfl⟩
  | bc b => exact ⟨fun _ => rfl, fun _ => rfl, fun _ => rfl⟩
  | nil => exact ⟨fun _ => rfl, fun _ => rfl, fun _ => rfl⟩
  | un o a ih =>
    obtain ⟨h1, h2, h3⟩ := ih
    cases o <;> simp only [E.sm] <;> refine ⟨fun hs => ?_, fun hs => ?_, fun hs => ?_⟩ <;> first | (simp [E.i, E.b, E.sub, h1 hs]; done) | (simp [E.i, E.b, E.sub, h2 hs]; done) | (simp at hs; done)
  | bin o a b iha ihb =>
    obtain ⟨a1, a2, a3⟩ := iha
    obtain ⟨b1, b2, b3⟩ := ihb
    cases o <;> simp only [E.sm, Bool.and_eq_true] <;> refine ⟨fun hs => ?_, fun hs => ?_, fun hs => ?_⟩ <;> first | (simp [E.i, E.b, E.l, E.sub, a1 hs.1, b1 hs.2]; done) | (simp [E.i, E.b, E.l, E.sub, a2 hs.1, b2 hs.2]; done) | (simp [E.i, E.b, E.l, E.sub, a3 hs.1, b3 hs.2]; done) | (simp at hs; done)
  | ite d a b ihd iha ihb =>
    obtain ⟨d1, d2, d3⟩ := ihd
    obtain ⟨a1, a2, a3⟩ := iha
    obtain ⟨b1, b2, b3⟩ := ihb
    simp only [E.sm, Bool.and_eq_true]
    exact ⟨fun hs => by simp only [E.i, E.sub, d2 hs.1.1, a1 hs.1.2, b1 hs.2], fun hs => by simp only [E.b, E.sub, d2 hs.1.1, a2 hs.1.2, b2 hs.2], fun hs => by simp only [E.l, E.sub, d2 hs.1.1, a3 hs.1.2, b3 hs.2]⟩
  | ap k a ih =>
    obtain ⟨h1, h2, h3⟩ := ih
    simp only [E.sm]
    exact ⟨fun hs => by simp only [E.i, E.sub, h3 hs, h.fn], fun hs => by simp only [E.b, E.sub, h3 hs, h.fb], fun hs => by simp only [E.l, E.sub, h3 hs, h.fl]⟩
  | cons a b iha ihb =>
    obtain ⟨a1, a2, a3⟩ := iha
    obtain ⟨b1, b2, b3⟩ := ihb
    simp only [E.sm, Bool.and_eq_true]
    exact ⟨fun hs => absurd hs (by simp), fun hs => absurd hs (by simp), fun hs => by simp only [E.l, E.sub, a1 hs.1, b3 hs.2]⟩

theorem Reads.elem {σ : Sub} {ρ ρ' : Env} (h : Reads σ ρ ρ') (sh : List CK) (k i : Nat) : CK.elem ρ' sh k i ↔ CK.elem ρ sh k i := by
  have e : ∀ (c : CK) (j : Nat), c.val ρ' k j i = c.val ρ k j i ∧ (c.fits ρ' k j i ↔ c.fits ρ k j i) := fun c j => by
    cases c <;> simp [CK.val, CK.fits, Env.slc, h.fn, h.fb, h.es]
  unfold CK.elem
  simp only [h.mv, (e _ _).1, (e _ _).2]
/-! A pattern y, read anew, is x. -/
def R.pat (σ : Sub) (y x : R) : Bool := y.e.sm 0 && (y.e.sub σ).same x.e
/-- A number's bounds are met. -/
def R.fit (ρ : Env) (r : R) : Prop := r.lo ≤ r.e.i ρ ∧ r.e.i ρ ≤ r.hi
mutual
def SV.rs : SV → List R
  | .int _ r => [r]
  | .slv _ _ l => [l]
  | .osl _ _ l => [l]
  | .optr _ _ l _ => [l]
  | .err r => [r]
  | .ifc _ v => v.rs
  | .fn _ l => SV.rsL l
  | .agg l => SV.rsL l
  | .tup l => SV.rsL l
  | _ => []
def SV.rsL : List SV → List R
  | [] => []
  | a :: l => a.rs ++ SV.rsL l
end
theorem R.pat_ok {σ : Sub} {ρ ρ' : Env} (h : Reads σ ρ ρ') {y x : R} (hp : y.pat σ x = true) : y.e.i ρ' = x.e.i ρ := by
  simp only [R.pat, Bool.and_eq_true] at hp
  rw [(E.sub_ok h y.e).1 hp.1, E.same_eq hp.2]
mutual
def SV.pat (σ : Sub) : SV → SV → Bool
  | .int k y, .int j x => decide (k = j) && y.pat σ x
  | .bool y, .bool x => y.sm 1 && (y.sub σ).same x
  | .nilp, .nilp => true
  | .ptr n o, .ptr m p => Nat.beq n m && Nat.beq o p
  | .nils, .nils => true
  | .sl n o l c, .sl m p k d => Nat.beq n m && Nat.beq o p && Nat.beq l k && decide (c = d)
  | .slv n o l, .slv m p k => Nat.beq n m && Nat.beq o p && l.pat σ k && decide (0 ≤ l.lo)
  | .emp n, .emp m => Nat.beq n m
  | .osl n s l, .osl m t k => Nat.beq n m && decide (s = t) && l.pat σ k && decide (0 ≤ l.lo)
  | .esl n i, .esl m j => Nat.beq n m && i.sm 0 && (i.sub σ).same j
  | .optr n s l o, .optr m t k p => Nat.beq n m && decide (s = t) && l.pat σ k && Nat.beq o p
  | .nili, .nili => true
  | .ifc t v, .ifc u x => decide (t = u) && v.pat σ x
  | .err y, .err x => y.pat σ x
  | .nilf, .nilf => true
  | .fn f l, .fn g m => decide (f = g) && SV.patL σ l m
  | .agg l, .agg m => SV.patL σ l m
  | .tup l, .tup m => SV.patL σ l m
  | _, _ => false
def SV.patL (σ : Sub) : List SV → List SV → Bool
  | [], [] => true
  | a :: l, c :: m => a.pat σ c && SV.patL σ l m
  | _, _ => false
end
mutual
theorem SV.pat_ok {σ : Sub} {ρ ρ' : Env} (h : Reads σ ρ ρ') (b : Bd) {N M : Nat → Prop} : (y x : SV) → y.pat σ x = true → (∀ n ∈ y.names, M n) → (∀ r ∈ y.rs, r.fit ρ') → y.den ρ' b = x.den ρ b ∧ (x.ok ρ N → y.ok ρ' M)
  | .int k y, x, hp, _, hf => by
    cases x <;> simp only [SV.pat, Bool.and_eq_true, decide_eq_true_eq, Bool.false_eq_true] at hp
    obtain ⟨rfl, hp⟩ := hp
    have h1 := R.pat_ok h hp
    exact ⟨by simp only [SV.den, h1], fun _ => hf y (by simp [SV.rs])⟩
  | .bool y, x, hp, _, _ => by
    cases x <;> simp only [SV.pat, Bool.and_eq_true, Bool.false_eq_true] at hp
    exact ⟨by simp only [SV.den, (E.sub_ok h y).2.1 hp.1, E.same_eq hp.2], fun _ => trivial⟩
  | .nilp, x, hp, _, _ => by cases x <;> simp only [SV.pat, Bool.false_eq_true] at hp; exact ⟨rfl, fun _ => trivial⟩
  | .ptr n o, x, hp, hm, hf => by
    cases x <;> simp only [SV.pat, Bool.and_eq_true, Bool.false_eq_true] at hp
    have e1 := Nat.eq_of_beq_eq_true hp.1
    have e2 := Nat.eq_of_beq_eq_true hp.2
    subst e1 e2
    exact ⟨rfl, fun _ => hm _ (by simp [SV.names])⟩
  | .nils, x, hp, _, _ => by cases x <;> simp only [SV.pat, Bool.false_eq_true] at hp; exact ⟨rfl, fun _ => trivial⟩
  | .sl n o l c, x, hp, hm, hf => by
    cases x <;> simp only [SV.pat, Bool.and_eq_true, decide_eq_true_eq, Bool.false_eq_true] at hp
    obtain ⟨⟨⟨h1, h2⟩, h3⟩, h4⟩ := hp
    have e1 := Nat.eq_of_beq_eq_true h1
    have e2 := Nat.eq_of_beq_eq_true h2
    have e3 := Nat.eq_of_beq_eq_true h3
    subst e1 e2 e3 h4
    exact ⟨rfl, fun _ => hm _ (by simp [SV.names])⟩
  | .slv n o l, x, hp, hm, hf => by
    cases x <;> simp only [SV.pat, Bool.and_eq_true, decide_eq_true_eq, Bool.false_eq_true] at hp
    obtain ⟨⟨⟨h1, h2⟩, h3⟩, h4⟩ := hp
    have k1 := R.pat_ok h h3
    have e1 := Nat.eq_of_beq_eq_true h1
    have e2 := Nat.eq_of_beq_eq_true h2
    subst e1 e2
    exact ⟨by simp only [SV.den, k1], fun hx => ⟨hm _ (by simp [SV.names]), hf l (by simp [SV.rs]), h4⟩⟩
  | .emp n, x, hp, _, _ => by
    cases x <;> simp only [SV.pat, Bool.false_eq_true] at hp
    rw [Nat.eq_of_beq_eq_true hp]
    exact ⟨by simp only [SV.den, h.ov], fun _ => trivial⟩
  | .osl n s l, x, hp, _, hf => by
    cases x <;> simp only [SV.pat, Bool.and_eq_true, decide_eq_true_eq, Bool.false_eq_true] at hp
    obtain ⟨⟨⟨h1, h2⟩, h3⟩, h4⟩ := hp
    have k1 := R.pat_ok h h3
    rw [Nat.eq_of_beq_eq_true h1, h2]
    exact ⟨by simp only [SV.den, k1, h.ov], fun hx => ⟨hf l (by simp [SV.rs]), h4, fun i hi => (h.elem _ _ _).2 (hx.2.2.1 i (by rw [← k1]; exact hi)), by rw [k1, h.ol]; exact hx.2.2.2⟩⟩
  | .esl n i, x, hp, _, _ => by
    cases x <;> simp only [SV.pat, Bool.and_eq_true, Bool.false_eq_true] at hp
    obtain ⟨⟨h1, h2⟩, h3⟩ := hp
    have e := (E.sub_ok h i).1 h2
    rw [E.same_eq h3] at e
    rw [Nat.eq_of_beq_eq_true h1]
    refine ⟨by simp only [SV.den, Env.slc, e, h.es], fun hx => ?_⟩
    simp only [SV.ok, e, h.es, h.fn]
    exact hx
  | .optr n s l o, x, hp, _, hf => by
    cases x <;> simp only [SV.pat, Bool.and_eq_true, decide_eq_true_eq, Bool.false_eq_true] at hp
    obtain ⟨⟨⟨h1, h2⟩, h3⟩, h4⟩ := hp
    have k1 := R.pat_ok h h3
    rw [Nat.eq_of_beq_eq_true h1, h2, Nat.eq_of_beq_eq_true h4]
    exact ⟨by simp only [SV.den, k1, h.ov], fun hx => ⟨hf l (by simp [SV.rs]), by rw [k1]; exact hx.2.1, by rw [k1]; exact (h.elem _ _ _).2 hx.2.2.1, by rw [h.ov]; exact hx.2.2.2⟩⟩
  | .nili, x, hp, _, _ => by cases x <;> simp only [SV.pat, Bool.false_eq_true] at hp; exact ⟨rfl, fun _ => trivial⟩
  | .ifc t v, x, hp, hm, hf => by
    cases x <;> simp only [SV.pat, Bool.and_eq_true, decide_eq_true_eq, Bool.false_eq_true] at hp
    obtain ⟨rfl, hp⟩ := hp
    obtain ⟨h1, h2⟩ := SV.pat_ok h b v _ hp (fun n hn => hm n (by simpa [SV.names] using hn)) (fun r hr => hf r (by simpa [SV.rs] using hr))
    exact ⟨by simp only [SV.den, h1], h2⟩
  | .err y, x, hp, _, hf => by
    cases x <;> simp only [SV.pat, Bool.false_eq_true] at hp
    have h1 := R.pat_ok h hp
    exact ⟨by simp only [SV.den, h1, h.et], fun _ => hf y (by simp [SV.rs])⟩
  | .nilf, x, hp, _, _ => by cases x <;> simp only [SV.pat, Bool.false_eq_true] at hp; exact ⟨rfl, fun _ => trivial⟩
  | .fn f l, x, hp, hm, hf => by
    cases x <;> simp only [SV.pat, Bool.and_eq_true, decide_eq_true_eq, Bool.false_eq_true] at hp
    obtain ⟨rfl, hp⟩ := hp
    obtain ⟨h1, h2⟩ := SV.patL_ok h b l _ hp (fun n hn => hm n (by simpa [SV.names] using hn)) (fun r hr => hf r (by simpa [SV.rs] using hr))
    exact ⟨by simp only [SV.den, h1], h2⟩
  | .agg l, x, hp, hm, hf => by
    cases x <;> simp only [SV.pat, Bool.false_eq_true] at hp
    obtain ⟨h1, h2⟩ := SV.patL_ok h b l _ hp (fun n hn => hm n (by simpa [SV.names] using hn)) (fun r hr => hf r (by simpa [SV.rs] using hr))
    exact ⟨by simp only [SV.den, h1], h2⟩
  | .tup l, x, hp, hm, hf => by
    cases x <;> simp only [SV.pat, Bool.false_eq_true] at hp
    obtain ⟨h1, h2⟩ := SV.patL_ok h b l _ hp (fun n hn => hm n (by simpa [SV.names] using hn)) (fun r hr => hf r (by simpa [SV.rs] using hr))
    exact ⟨by simp only [SV.den, h1], h2⟩
  | .con v, x, hp, _, _ => by cases x <;> simp only [SV.pat, Bool.false_eq_true] at hp
theorem SV.patL_ok {σ : Sub} {ρ ρ' : Env} (h : Reads σ ρ ρ') (b : Bd) {N M : Nat → Prop} : (y x : List SV) → SV.patL σ y x = true → (∀ n ∈ SV.namesL y, M n) → (∀ r ∈ SV.rsL y, r.fit ρ') → SV.denL ρ' b y = SV.denL ρ b x ∧ (SV.okL ρ N x → SV.okL ρ' M y)
  | [], x, hp, _, _ => by cases x <;> simp only [SV.patL, Bool.false_eq_true] at hp; exact ⟨rfl, fun _ => trivial⟩
  | a :: l, x, hp, hm, hf => by
    cases x with
    | nil => simp only [SV.patL, Bool.false_eq_true] at hp
    | cons c m =>
      simp only [SV.patL, Bool.and_eq_true] at hp
      obtain ⟨h1, h2⟩ := SV.pat_ok h b (N := N) a c hp.1 (fun n hn => hm n (by simp [SV.namesL, hn])) (fun r hr => hf r (by simp [SV.rsL, hr]))
      obtain ⟨k1, k2⟩ := SV.patL_ok h b (N := N) l m hp.2 (fun n hn => hm n (by simp [SV.namesL, hn])) (fun r hr => hf r (by simp [SV.rsL, hr]))
      exact ⟨by simp only [SV.denL, h1, k1], fun hx => ⟨h2 hx.1, k2 hx.2⟩⟩
end
/-- The state y, read anew, is what x has, or less. -/
def St.pat (σ : Sub) (y x : St) : Bool :=
  Nat.beq y.nt x.nt
  && y.tmps.all (fun p => p.2.g.isEmpty && (p.2.sv.names.all fun m => Nat.blt m y.next) && match find x.tmps p.1 with | some e => e.g.isEmpty && p.2.sv.pat σ e.sv | none => false)
  && y.heap.all (fun p => p.2.g.isEmpty && Nat.blt p.1 y.next && ((SV.namesL p.2.blk.cells).all fun m => Nat.blt m y.next) && match find x.heap p.1 with | some e => e.g.isEmpty && decide (p.2.blk.kind = e.blk.kind) && decide (p.2.blk.elem = e.blk.elem) && SV.patL σ p.2.blk.cells e.blk.cells | none => false)
/-- The numbers of a state. -/
def St.rs (y : St) : List R := (y.tmps.flatMap fun p => p.2.sv.rs) ++ y.heap.flatMap fun p => SV.rsL p.2.blk.cells
theorem St.pat_ok {σ : Sub} {ρ ρ' : Env} (h : Reads σ ρ ρ') {y x : St} (hp : y.pat σ x = true) (hfit : ∀ r ∈ y.rs, r.fit ρ') {b : Bd} {base : Nat → Prop} {w0 w : World} {tm : Array Value} (hr : Rel ρ b base w0 w x tm) : Rel ρ' b base w0 w y tm := by
  simp only [St.pat, Bool.and_eq_true, List.all_eq_true] at hp
  obtain ⟨⟨h0, h1⟩, h2⟩ := hp
  have hH : ∀ n e, find y.heap n = some e → e.g = [] ∧ n < y.next ∧ (∀ m ∈ SV.namesL e.blk.cells, m < y.next) ∧ ∃ u, find x.heap n = some u ∧ u.g = [] ∧ e.blk.kind = u.blk.kind ∧ e.blk.elem = u.blk.elem ∧ SV.patL σ e.blk.cells u.blk.cells = true := by
    intro n e hf
    obtain ⟨⟨⟨g1, g2⟩, g3⟩, g4⟩ := h2 _ (find_mem hf)
    refine ⟨by simpa using g1, blt_lt g2, fun m hm => blt_lt (g3 m hm), ?_⟩
    split at g4
    · rename_i u hu
      simp only [Bool.and_eq_true, decide_eq_true_eq] at g4
      exact ⟨u, hu, by simpa using g4.1.1.1, g4.1.1.2, g4.1.2, g4.2⟩
    · cases g4
  refine ⟨⟨fun n e hf _ => ?_, fun n m e k hf hk hg hgk ho hok heq => ?_⟩, fun i e hf => ?_, hr.below, hr.base, hr.nt.trans (Nat.eq_of_beq_eq_true h0).symm, hr.kept.of h.mv h.ov h.es h.mn⟩
  · obtain ⟨g1, g2, g3, u, u1, u2, u3, u4, u5⟩ := hH n e hf
    obtain ⟨m1, m2, m3⟩ := hr.heap.mem n u u1 (by rw [u2]; exact allB_nil ρ)
    obtain ⟨k1, k2⟩ := SV.patL_ok h b (N := (· < x.next)) (M := (· < y.next)) _ _ u5 g3 (fun r hr => hfit r (List.mem_append.2 (.inr (List.mem_flatMap.2 ⟨(n, e), find_mem hf, hr⟩))))
    refine ⟨g2, ?_, k2 m3⟩
    have hl : e.blk.cells.length = u.blk.cells.length := by have := congrArg List.length k1; simpa [denL_length] using this
    have hgt : ∀ (i : Nat) (v : SV), e.blk.cells[i]? = some v → ∃ z : SV, u.blk.cells[i]? = some z ∧ v.den ρ' b = z.den ρ b := by
      intro i v hi
      have e1 : (SV.denL ρ' b e.blk.cells)[i]? = some (v.den ρ' b) := by rw [denL_get, hi]; rfl
      rw [k1, denL_get] at e1
      cases hz : u.blk.cells[i]? with
      | none => rw [hz] at e1; cases e1
      | some z => rw [hz] at e1; exact ⟨z, rfl, (Option.some.inj e1).symm⟩
    unfold Blk.ok at m2 ⊢
    rw [u3, u4, k1]
    split at m2
    · exact m2
    · obtain ⟨a1, a2, arr, a3, a4, a5, a6⟩ := m2
      exact ⟨a1, a2, arr, a3, a4, by rw [hl]; exact a5, fun i v hi => by obtain ⟨z, z1, z2⟩ := hgt i v hi; rw [z2]; exact a6 i z z1⟩
    · exact ⟨m2.1, fun i v hi => by obtain ⟨z, z1, z2⟩ := hgt i v hi; rw [z2]; exact m2.2 i z z1⟩
  · obtain ⟨g1, g2, g3, u, u1, u2, u3, u4, u5⟩ := hH n e hf
    obtain ⟨f1, f2, f3, t, t1, t2, t3, t4, t5⟩ := hH m k hk
    exact hr.heap.inj n m u t u1 t1 (by rw [u2]; exact allB_nil ρ) (by rw [t2]; exact allB_nil ρ) (by simpa [Blk.own, u3] using ho) (by simpa [Blk.own, t3] using hok) heq
  · obtain ⟨⟨g1, g2⟩, g3⟩ := h1 _ (find_mem hf)
    split at g3
    · rename_i u hu
      simp only [Bool.and_eq_true] at g3
      have ug : u.g = [] := by simpa using g3.1
      have eg : e.g = [] := by simpa using g1
      obtain ⟨t1, t2⟩ := (hr.tmps i u hu).1 (by rw [ug]; exact allB_nil ρ)
      obtain ⟨k1, k2⟩ := SV.pat_ok h b (N := (· < x.next)) (M := (· < y.next)) _ _ g3.2 (fun n hn => blt_lt (by simpa using g2 n hn)) (fun r hr => hfit r (List.mem_append.2 (.inl (List.mem_flatMap.2 ⟨(i, e), find_mem hf, hr⟩))))
      exact ⟨fun _ => ⟨by rw [k1]; exact t1, k2 t2⟩, fun hn => absurd (by rw [eg]; exact allB_nil ρ') hn⟩
    · cases g3
end Go.Proofs.Ytdfpenjhpemokaa.Sx
