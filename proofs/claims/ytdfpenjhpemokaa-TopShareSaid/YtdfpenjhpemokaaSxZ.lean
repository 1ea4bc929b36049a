/-
  A verified symbolic executor, part 24: what the names of great terms stand for; a function from its start to its end.
-/
import Derived.Test.YtdfpenjhpemokaaSxW
set_option linter.unusedVariables false
set_option linter.unusedSimpArgs false
namespace Go.Proofs.Ytdfpenjhpemokaa.Sx
open Go.RowKit (Below)

def keepB (l : List Nat) (i : Nat) : Bool := l.any (Nat.beq i)
def look {α : Type} : List (Nat × List α) → Nat → List α
  | [], _ => []
  | (g, k) :: l, f => if Nat.beq g f then k else look l f
def cfgK (sum : Handler) (keeps : List (Nat × List (Nat × List Nat))) (bound big : Nat) : Cfg := ⟨sum, fun f => ⟨fun id => keepB (look (look keeps f) id), false, bound, big⟩⟩

def base0 : Nat := 1000
def E.fine (D B : List Nat) : E → Bool
  | .v n => Nat.blt n base0 || D.any (Nat.beq n)
  | .bv n => Nat.blt n base0 || B.any (Nat.beq n)
  | .un _ a => a.fine D B
  | .bin _ a b => a.fine D B && b.fine D B
  | .ite d a b => d.fine D B && a.fine D B && b.fine D B
  | .ap _ a => a.fine D B
  | .cons a b => a.fine D B && b.fine D B
  | _ => true
structure Same (ρ ρ' : Env) (D B : List Nat) : Prop where
  iv : ∀ n, n < base0 ∨ n ∈ D → ρ'.iv n = ρ.iv n
  bv : ∀ n, n < base0 ∨ n ∈ B → ρ'.bv n = ρ.bv n
  fn : ρ'.fn = ρ.fn
  fb : ρ'.fb = ρ.fb
  et : ρ'.et = ρ.et
  ov : ρ'.ov = ρ.ov
  fl : ρ'.fl = ρ.fl
  mv : ρ'.mv = ρ.mv
  es : ρ'.es = ρ.es
  mn : ρ'.mn = ρ.mn
  ol : ρ'.ol = ρ.ol
theorem any_beq {n : Nat} {D : List Nat} (h : D.any (Nat.beq n) = true) : n ∈ D := by
  rw [List.any_eq_true] at h
  obtain ⟨x, hx, hn⟩ := h
  rw [Nat.eq_of_beq_eq_true hn]; exact hx
theorem blt_lt {n m : Nat} (h : Nat.blt n m = true) : n < m := by
  unfold Nat.blt at h
  exact Nat.le_of_ble_eq_true h
theorem E.fine_same {ρ ρ' : Env} {D B : List Nat} (h : Same ρ ρ' D B) : (e : E) → e.fine D B = true → e.i ρ' = e.i ρ ∧ e.b ρ' = e.b ρ ∧ e.l ρ' = e.l ρ := by
  intro e
  induction e with
  | v n =>
    intro hf
    simp only [E.fine, Bool.or_eq_true] at hf
    refine ⟨?_, rfl, rfl⟩
    simp only [E.i]
    exact h.iv n (hf.imp blt_lt any_beq)
  | bv n =>
    intro hf
    simp only [E.fine, Bool.or_eq_true] at hf
    refine ⟨rfl, ?_, rfl⟩
    simp only [E.b]
    exact h.bv n (hf.imp blt_lt any_beq)
  | c z => exact fun _ => ⟨rfl, rfl, rfl⟩
  | bc b => exact fun _ => ⟨rfl, rfl, rfl⟩
  | nil => exact fun _ => ⟨rfl, rfl, rfl⟩
  | un o a ih =>
    intro hf
    obtain ⟨h1, h2, h3⟩ := ih hf
    cases o <;> simp [E.i, E.b, E.l, h1, h2]
  | bin o a b iha ihb =>
    intro hf
    simp only [E.fine, Bool.and_eq_true] at hf
    obtain ⟨a1, a2, a3⟩ := iha hf.1
    obtain ⟨b1, b2, b3⟩ := ihb hf.2
    cases o <;> simp [E.i, E.b, E.l, a1, a2, a3, b1, b2, b3]
  | ite d a b ihd iha ihb =>
    intro hf
    simp only [E.fine, Bool.and_eq_true] at hf
    obtain ⟨d1, d2, d3⟩ := ihd hf.1.1
    obtain ⟨a1, a2, a3⟩ := iha hf.1.2
    obtain ⟨b1, b2, b3⟩ := ihb hf.2
    simp [E.i, E.b, E.l, d2, a1, a2, a3, b1, b2, b3]
  | ap k a ih =>
    intro hf
    obtain ⟨h1, h2, h3⟩ := ih hf
    simp [E.i, E.b, E.l, h3, h.fn, h.fb, h.fl]
  | cons a b iha ihb =>
    intro hf
    simp only [E.fine, Bool.and_eq_true] at hf
    obtain ⟨a1, a2, a3⟩ := iha hf.1
    obtain ⟨b1, b2, b3⟩ := ihb hf.2
    simp [E.i, E.b, E.l, a1, b3]
inductive Df where
  | n (h : Nat) (e : E) | b (h : Nat) (e : E) | no
def dfOf : VC → Df
  | ⟨[], .bin .eq (.v h) e⟩ => .n h e
  | ⟨[], .ite (.bv h) e (.un .not e')⟩ => if e.same e' then .b h e else .no
  | _ => .no
theorem dfOf_n {v : VC} {h : Nat} {e : E} (hd : dfOf v = .n h e) {ρ : Env} (he : ρ.iv h = e.i ρ) : v.holds ρ := by
  unfold dfOf at hd
  split at hd
  · cases hd
    intro _
    simp [E.b, E.i, he]
  · split at hd <;> cases hd
  · cases hd
theorem dfOf_b {v : VC} {h : Nat} {e : E} (hd : dfOf v = .b h e) {ρ : Env} (he : ρ.bv h = e.b ρ) : v.holds ρ := by
  unfold dfOf at hd
  split at hd
  · cases hd
  · split at hd
    · rename_i hs
      cases hd
      rw [← E.same_eq hs]
      intro _
      simp only [E.b, he]
      cases e.b ρ <;> rfl
    · cases hd
  · cases hd
def dfFind : List (Nat × E) → Nat → Option E
  | [], _ => none
  | (m, e) :: l, n => if Nat.beq m n then some e else dfFind l n
theorem dfFind_mem {l : List (Nat × E)} {n : Nat} {e : E} (h : dfFind l n = some e) : (n, e) ∈ l := by
  induction l with
  | nil => cases h
  | cons a l ih =>
    obtain ⟨m, y⟩ := a
    simp only [dfFind] at h
    split at h
    · rename_i hm; cases h; rw [Nat.eq_of_beq_eq_true hm]; exact .head _
    · exact .tail _ (ih h)
def defs : List VC → List (Nat × E) → List (Nat × E) → List VC
  | [], _, _ => []
  | v :: l, D, B => match dfOf v with
    | .n h e => match dfFind D h with
      | some e' => if e.same e' then defs l D B else v :: defs l D B
      | none => if Nat.ble base0 h && e.fine (D.map (·.1)) (B.map (·.1)) then defs l ((h, e) :: D) B else v :: defs l D B
    | .b h e => match dfFind B h with
      | some e' => if e.same e' then defs l D B else v :: defs l D B
      | none => if Nat.ble base0 h && e.fine (D.map (·.1)) (B.map (·.1)) then defs l D ((h, e) :: B) else v :: defs l D B
    | .no => v :: defs l D B
def Env.setI (ρ : Env) (h : Nat) (z : Int) : Env := { ρ with iv := fun n => if n = h then z else ρ.iv n }
def Env.setB (ρ : Env) (h : Nat) (z : Bool) : Env := { ρ with bv := fun n => if n = h then z else ρ.bv n }
theorem dfFind_none {l : List (Nat × E)} {n : Nat} (h : dfFind l n = none) : ¬ n ∈ l.map (·.1) := by
  induction l with
  | nil => simp
  | cons a l ih =>
    obtain ⟨m, y⟩ := a
    simp only [dfFind] at h
    split at h
    · cases h
    · rename_i hm
      simp only [List.map_cons, List.mem_cons, not_or]
      exact ⟨fun e => hm (by rw [e]; exact Nat.beq_refl m), ih h⟩
structure DefOk (ρ : Env) (D B : List (Nat × E)) : Prop where
  n : ∀ h e, (h, e) ∈ D → ρ.iv h = e.i ρ ∧ e.fine (D.map (·.1)) (B.map (·.1)) = true
  b : ∀ h e, (h, e) ∈ B → ρ.bv h = e.b ρ ∧ e.fine (D.map (·.1)) (B.map (·.1)) = true
theorem E.fine_mono {D D' B B' : List Nat} (hD : ∀ n, n ∈ D → n ∈ D') (hB : ∀ n, n ∈ B → n ∈ B') (e : E) : e.fine D B = true → e.fine D' B' = true := by
  have key : ∀ {L L' : List Nat} {n : Nat}, (∀ n, n ∈ L → n ∈ L') → L.any (Nat.beq n) = true → L'.any (Nat.beq n) = true := by
    intro L L' n h hn
    exact List.any_eq_true.2 ⟨n, h n (any_beq hn), Nat.beq_refl n⟩
  induction e with
  | v n => simp only [E.fine, Bool.or_eq_true]; exact fun h => h.imp_right (key hD)
  | bv n => simp only [E.fine, Bool.or_eq_true]; exact fun h => h.imp_right (key hB)
  | un o a ih => exact ih
  | bin o a b iha ihb => simp only [E.fine, Bool.and_eq_true]; exact fun h => ⟨iha h.1, ihb h.2⟩
  | ite d a b ihd iha ihb => simp only [E.fine, Bool.and_eq_true]; exact fun h => ⟨⟨ihd h.1.1, iha h.1.2⟩, ihb h.2⟩
  | ap k a ih => exact ih
  | cons a b iha ihb => simp only [E.fine, Bool.and_eq_true]; exact fun h => ⟨iha h.1, ihb h.2⟩
  | _ => exact id
theorem defs_ok : ∀ (l : List VC) (D B : List (Nat × E)) (ρ : Env), DefOk ρ D B → ∃ ρ', Same ρ ρ' (D.map (·.1)) (B.map (·.1)) ∧ (∀ v ∈ l, v.holds ρ' ∨ v ∈ defs l D B) := by
  intro l
  induction l with
  | nil => intro D B ρ _; exact ⟨ρ, ⟨fun _ _ => rfl, fun _ _ => rfl, rfl, rfl, rfl, rfl, rfl, rfl, rfl, rfl, rfl⟩, fun v h => by cases h⟩
  | cons v l ih =>
    intro D B ρ hd
    -- it is left
    have left : ∃ ρ', Same ρ ρ' (D.map (·.1)) (B.map (·.1)) ∧ (∀ u ∈ v :: l, u.holds ρ' ∨ u ∈ v :: defs l D B) := by
      obtain ⟨ρ', h1, h2⟩ := ih D B ρ hd
      refine ⟨ρ', h1, fun u hu => ?_⟩
      cases hu with
      | head => exact .inr (.head _)
      | tail _ hu => exact (h2 u hu).imp_right (.tail _)
    -- it holds
    have holds : (∀ ρ', Same ρ ρ' (D.map (·.1)) (B.map (·.1)) → v.holds ρ') → ∃ ρ', Same ρ ρ' (D.map (·.1)) (B.map (·.1)) ∧ (∀ u ∈ v :: l, u.holds ρ' ∨ u ∈ defs l D B) := by
      intro hv
      obtain ⟨ρ', h1, h2⟩ := ih D B ρ hd
      refine ⟨ρ', h1, fun u hu => ?_⟩
      cases hu with
      | head => exact .inl (hv ρ' h1)
      | tail _ hu => exact h2 u hu
    simp only [defs]
    split
    · rename_i h e hdf
      split
      · rename_i e' hf
        split
        · rename_i hs
          have hm := hd.n h e' (dfFind_mem hf)
          refine holds fun ρ' hS => dfOf_n hdf ?_
          rw [E.same_eq hs, hS.iv h (.inr (List.mem_map.2 ⟨_, dfFind_mem hf, rfl⟩)), hm.1]
          exact (E.fine_same hS e' hm.2).1.symm
        · exact left
      · rename_i hf
        split
        · rename_i hb
          simp only [Bool.and_eq_true] at hb
          have hge : base0 ≤ h := Nat.le_of_ble_eq_true hb.1
          have hnm := dfFind_none hf
          have hs0 : Same ρ (ρ.setI h (e.i ρ)) (D.map (·.1)) (B.map (·.1)) := ⟨fun n hn => by
            show (if n = h then _ else _) = _
            rw [if_neg]
            rintro rfl
            rcases hn with hn | hn
            · omega
            · exact hnm hn, fun _ _ => rfl, rfl, rfl, rfl, rfl, rfl, rfl, rfl, rfl, rfl⟩
          have hnew : DefOk (ρ.setI h (e.i ρ)) ((h, e) :: D) B := by
            refine ⟨fun k x hk => ?_, fun k x hk => ?_⟩
            · cases hk with
              | head => exact ⟨by rw [(E.fine_same hs0 e hb.2).1]; simp [Env.setI], E.fine_mono (fun n hn => .tail _ hn) (fun n hn => hn) e hb.2⟩
              | tail _ hk =>
                obtain ⟨k1, k2⟩ := hd.n k x hk
                refine ⟨?_, E.fine_mono (fun n hn => .tail _ hn) (fun n hn => hn) x k2⟩
                rw [(E.fine_same hs0 x k2).1, hs0.iv k (.inr (List.mem_map.2 ⟨_, hk, rfl⟩)), k1]
            · obtain ⟨k1, k2⟩ := hd.b k x hk
              refine ⟨?_, E.fine_mono (fun n hn => .tail _ hn) (fun n hn => hn) x k2⟩
              rw [(E.fine_same hs0 x k2).2.1, hs0.bv k (.inr (List.mem_map.2 ⟨_, hk, rfl⟩)), k1]
          obtain ⟨ρ', h1, h2⟩ := ih ((h, e) :: D) B (ρ.setI h (e.i ρ)) hnew
          have hS : Same ρ ρ' (D.map (·.1)) (B.map (·.1)) := ⟨fun n hn => (h1.iv n (hn.imp_right (.tail _))).trans (hs0.iv n hn), fun n hn => (h1.bv n hn).trans (hs0.bv n hn), h1.fn.trans hs0.fn, h1.fb.trans hs0.fb, h1.et.trans hs0.et, h1.ov.trans hs0.ov, h1.fl.trans hs0.fl, h1.mv.trans hs0.mv, h1.es.trans hs0.es, h1.mn.trans hs0.mn, h1.ol.trans hs0.ol⟩
          refine ⟨ρ', hS, fun u hu => ?_⟩
          cases hu with
          | head =>
            refine .inl (dfOf_n hdf ?_)
            have e1 := h1.iv h (.inr (.head _))
            have e2 : (ρ.setI h (e.i ρ)).iv h = e.i ρ := by simp [Env.setI]
            rw [e1, e2]
            exact (E.fine_same hS e hb.2).1.symm
          | tail _ hu => exact h2 u hu
        · exact left
    · rename_i h e hdf
      split
      · rename_i e' hf
        split
        · rename_i hs
          have hm := hd.b h e' (dfFind_mem hf)
          refine holds fun ρ' hS => dfOf_b hdf ?_
          rw [E.same_eq hs, hS.bv h (.inr (List.mem_map.2 ⟨_, dfFind_mem hf, rfl⟩)), hm.1]
          exact (E.fine_same hS e' hm.2).2.1.symm
        · exact left
      · rename_i hf
        split
        · rename_i hb
          simp only [Bool.and_eq_true] at hb
          have hge : base0 ≤ h := Nat.le_of_ble_eq_true hb.1
          have hnm := dfFind_none hf
          have hs0 : Same ρ (ρ.setB h (e.b ρ)) (D.map (·.1)) (B.map (·.1)) := ⟨fun _ _ => rfl, fun n hn => by
            show (if n = h then _ else _) = _
            rw [if_neg]
            rintro rfl
            rcases hn with hn | hn
            · omega
            · exact hnm hn, rfl, rfl, rfl, rfl, rfl, rfl, rfl, rfl, rfl⟩
          have hnew : DefOk (ρ.setB h (e.b ρ)) D ((h, e) :: B) := by
            refine ⟨fun k x hk => ?_, fun k x hk => ?_⟩
            · obtain ⟨k1, k2⟩ := hd.n k x hk
              refine ⟨?_, E.fine_mono (fun n hn => hn) (fun n hn => .tail _ hn) x k2⟩
              rw [(E.fine_same hs0 x k2).1, hs0.iv k (.inr (List.mem_map.2 ⟨_, hk, rfl⟩)), k1]
            · cases hk with
              | head => exact ⟨by rw [(E.fine_same hs0 e hb.2).2.1]; simp [Env.setB], E.fine_mono (fun n hn => hn) (fun n hn => .tail _ hn) e hb.2⟩
              | tail _ hk =>
                obtain ⟨k1, k2⟩ := hd.b k x hk
                refine ⟨?_, E.fine_mono (fun n hn => hn) (fun n hn => .tail _ hn) x k2⟩
                rw [(E.fine_same hs0 x k2).2.1, hs0.bv k (.inr (List.mem_map.2 ⟨_, hk, rfl⟩)), k1]
          obtain ⟨ρ', h1, h2⟩ := ih D ((h, e) :: B) (ρ.setB h (e.b ρ)) hnew
          have hS : Same ρ ρ' (D.map (·.1)) (B.map (·.1)) := ⟨fun n hn => (h1.iv n hn).trans (hs0.iv n hn), fun n hn => (h1.bv n (hn.imp_right (.tail _))).trans (hs0.bv n hn), h1.fn.trans hs0.fn, h1.fb.trans hs0.fb, h1.et.trans hs0.et, h1.ov.trans hs0.ov, h1.fl.trans hs0.fl, h1.mv.trans hs0.mv, h1.es.trans hs0.es, h1.mn.trans hs0.mn, h1.ol.trans hs0.ol⟩
          refine ⟨ρ', hS, fun u hu => ?_⟩
          cases hu with
          | head =>
            refine .inl (dfOf_b hdf ?_)
            have e1 := h1.bv h (.inr (.head _))
            have e2 : (ρ.setB h (e.b ρ)).bv h = e.b ρ := by simp [Env.setB]
            rw [e1, e2]
            exact (E.fine_same hS e hb.2).2.1.symm
          | tail _ hu => exact h2 u hu
        · exact left
    · exact left
def VC.same (v u : VC) : Bool := sameEs v.pc u.pc && v.e.same u.e
theorem VC.same_eq {v u : VC} (h : v.same u = true) : v = u := by
  unfold VC.same at h
  rw [Bool.and_eq_true] at h
  have h1 := sameEs_eq h.1
  have h2 := E.same_eq h.2
  cases v; cases u; simp_all
def VC.triv (v : VC) : Bool := match v.e with
  | .bc true => true
  | _ => false
theorem VC.triv_ok {v : VC} (h : v.triv = true) (ρ : Env) : v.holds ρ := by
  unfold VC.triv at h
  split at h
  · rename_i he
    intro _
    rw [he]
    rfl
  · cases h
def chk (r : Option (T CR × List VC)) (e : E) (l : List VC) : Bool := match r with
  | some (.leaf c, vs) => (match c.v with
    | .bool x => x.same e
    | _ => false) && vs.all fun v => v.triv || l.any fun u => u.same v
  | _ => false
def VC.says (ρ : Env) (v : VC) : Prop := match dfOf v with
  | .n h e => ρ.iv h = e.i ρ
  | .b h e => ρ.bv h = e.b ρ
  | .no => True
theorem says_of {ρ : Env} {v : VC} (h : v.holds ρ) : v.says ρ := by
  unfold VC.says
  split
  · rename_i n e hd
    unfold dfOf at hd
    split at hd
    · cases hd
      have := VC.holds_nil h
      simp only [E.b, decide_eq_true_eq] at this
      exact this
    · split at hd <;> cases hd
    · cases hd
  · rename_i n e hd
    unfold dfOf at hd
    split at hd
    · cases hd
    · split at hd
      · rename_i hs
        cases hd
        have := VC.holds_nil h
        rw [← E.same_eq hs] at this
        simp only [E.b] at this
        show ρ.bv _ = _
        cases h1 : ρ.bv n <;> simp_all
      · cases hd
    · cases hd
  · trivial
def saysL (ρ : Env) : List VC → Prop
  | [] => True
  | v :: l => v.says ρ ∧ saysL ρ l
theorem saysL_of {ρ : Env} {l : List VC} (h : allV ρ l) : saysL ρ l := by
  induction l with
  | nil => trivial
  | cons v l ih => exact ⟨says_of (h v (.head _)), ih (fun u hu => h u (.tail _ hu))⟩

end Go.Proofs.Ytdfpenjhpemokaa.Sx
/-
  A verified symbolic executor: a state taken as another one, its names read anew; loops by what holds at each round.
-/
namespace Go.Proofs.Ytdfpenjhpemokaa.Sx
open Go.RowKit (Below)

structure Sub where
  i : List (Nat × E)
  b : List (Nat × E)
def E.sub (σ : Sub) : E → E
  | .v n => (find σ.i n).getD (.v n)
  | .bv n => (find σ.b n).getD (.bv n)
  | .un o a => .un o (a.sub σ)
  | .bin o a b => .bin o (a.sub σ) (b.sub σ)
  | .ite d a b => .ite (d.sub σ) (a.sub σ) (b.sub σ)
  | .ap k a => .ap k (a.sub σ)
  | .cons a b => .cons (a.sub σ) (b.sub σ)
  | e => e
structure Reads (σ : Sub) (ρ ρ' : Env) : Prop where
  iv : ∀ n, n < base0 → ρ'.iv n = match find σ.i n with | some e => e.i ρ | none => ρ.iv n
  bv : ∀ n, n < base0 → ρ'.bv n = match find σ.b n with | some e => e.b ρ | none => ρ.bv n
  fn : ρ'.fn = ρ.fn
  fb : ρ'.fb = ρ.fb
  et : ρ'.et = ρ.et
  ov : ρ'.ov = ρ.ov
  fl : ρ'.fl = ρ.fl
  mv : ρ'.mv = ρ.mv
  es : ρ'.es = ρ.es
  mn : ρ'.mn = ρ.mn
  ol : ρ'.ol = ρ.ol
def Env.sub (σ : Sub) (ρ : Env) : Env := { ρ with iv := fun n => match find σ.i n with | some e => e.i ρ | none => ρ.iv n, bv := fun n => match find σ.b n with | some e => e.b ρ | none => ρ.bv n }
theorem Reads.of {σ : Sub} {ρ ρ' : Env} (h : Same (ρ.sub σ) ρ' [] []) : Reads σ ρ ρ' :=
  ⟨fun n hn => h.iv n (.inl hn), fun n hn => h.bv n (.inl hn), h.fn, h.fb, h.et, h.ov, h.fl, h.mv, h.es, h.mn, h.ol⟩
def E.sm : E → Nat → Bool
  | .v n, 0 => Nat.blt n base0
  | .c _, 0 => true
  | .un (.wrap _) a, 0 => a.sm 0
  | .bin .add a b, 0 | .bin .sub a b, 0 | .bin .mul a b, 0 | .bin .quo a b, 0 | .bin .rem a b, 0 | .bin .div a b, 0 | .bin .mod a b, 0 | .bin .min a b, 0 | .bin .max a b, 0 => a.sm 0 && b.sm 0
  | .ite d a b, 0 => d.sm 1 && a.sm 0 && b.sm 0
  | .ap _ a, 0 => a.sm 2
  | .bv n, 1 => Nat.blt n base0
  | .bc _, 1 => true
  | .un .not a, 1 => a.sm 1
  | .bin .lt a b, 1 | .bin .le a b, 1 | .bin .eq a b, 1 => a.sm 0 && b.sm 0
  | .bin .and a b, 1 | .bin .or a b, 1 => a.sm 1 && b.sm 1
  | .ite d a b, 1 => d.sm 1 && a.sm 1 && b.sm 1
  | .ap _ a, 1 => a.sm 2
  | .nil, 2 => true
  | .cons a b, 2 => a.sm 0 && b.sm 2
  | .ap _ a, 2 => a.sm 2
  | .bin .app a b, 2 => a.sm 2 && b.sm 2
  | .ite d a b, 2 => d.sm 1 && a.sm 2 && b.sm 2
  | _, _ => false
theorem E.sub_ok {σ : Sub} {ρ ρ' : Env} (h : Reads σ ρ ρ') : (e : E) → (e.sm 0 = true → e.i ρ' = (e.sub σ).i ρ) ∧ (e.sm 1 = true → e.b ρ' = (e.sub σ).b ρ) ∧ (e.sm 2 = true → e.l ρ' = (e.sub σ).l ρ) := by
  intro e
  induction e with
  | v n =>
    refine ⟨fun hs => ?_, fun hs => (by simp [E.sm] at hs), fun hs => (by simp [E.sm] at hs)⟩
    simp only [E.i, E.sub, h.iv n (blt_lt (by simpa [E.sm] using hs))]
    cases find σ.i n <;> rfl
  | bv n =>
    refine ⟨fun hs => (by simp [E.sm] at hs), fun hs => ?_, fun hs => (by simp [E.sm] at hs)⟩
    simp only [E.b, E.sub, h.bv n (blt_lt (by simpa [E.sm] using hs))]
    cases find σ.b n <;> rfl
  | c z => exact ⟨fun _ => rfl, fun _ => rfl, fun _ => rfl⟩
  | bc b => exact ⟨fun _ => rfl, fun _ => rfl, fun _ => rfl⟩
  | nil => exact ⟨fun _ => rfl, fun _ => rfl, fun _ => rfl⟩
  | un o a ih =>
    obtain ⟨h1, h2, h3⟩ := ih
    cases o <;> simp only [E.sm] <;> refine ⟨fun hs => ?_, fun hs => ?_, fun hs => ?_⟩ <;> first | (simp [E.i, E.b, E.sub, h1 hs]; done) | (simp [E.i, E.b, E.sub, h2 hs]; done) | (simp at hs; done)
  | bin o a b iha ihb =>
    obtain ⟨a1, a2, a3⟩ := iha
    obtain ⟨b1, b2, b3⟩ := ihb
    cases o <;> simp only [E.sm, Bool.and_eq_true] <;> refine ⟨fun hs => ?_, fun hs => ?_, fun hs => ?_⟩ <;> first | (simp [E.i, E.b, E.l, E.sub, a1 hs.1, b1 hs.2]; done) | (simp [E.i, E.b, E.l, E.sub, a2 hs.1, b2 hs.2]; done) | (simp [E.i, E.b, E.l, E.sub, a3 hs.1, b3 hs.2]; done) | (simp at hs; done)
  | ite d a b ihd iha ihb =>
    obtain ⟨d1, d2, d3⟩ := ihd
    obtain ⟨a1, a2, a3⟩ := iha
    obtain ⟨b1, b2, b3⟩ := ihb
    simp only [E.sm, Bool.and_eq_true]
    exact ⟨fun hs => by simp only [E.i, E.sub, d2 hs.1.1, a1 hs.1.2, b1 hs.2], fun hs => by simp only [E.b, E.sub, d2 hs.1.1, a2 hs.1.2, b2 hs.2], fun hs => by simp only [E.l, E.sub, d2 hs.1.1, a3 hs.1.2, b3 hs.2]⟩
  | ap k a ih =>
    obtain ⟨h1, h2, h3⟩ := ih
    simp only [E.sm]
    exact ⟨fun hs => by simp only [E.i, E.sub, h3 hs, h.fn], fun hs => by simp only [E.b, E.sub, h3 hs, h.fb], fun hs => by simp only [E.l, E.sub, h3 hs, h.fl]⟩
  | cons a b iha ihb =>
    obtain ⟨a1, a2, a3⟩ := iha
    obtain ⟨b1, b2, b3⟩ := ihb
    simp only [E.sm, Bool.and_eq_true]
    exact ⟨fun hs => absurd hs (by simp), fun hs => absurd hs (by simp), fun hs => by simp only [E.l, E.sub, a1 hs.1, b3 hs.2]⟩

theorem Reads.elem {σ : Sub} {ρ ρ' : Env} (h : Reads σ ρ ρ') (sh : List CK) (k i : Nat) : CK.elem ρ' sh k i ↔ CK.elem ρ sh k i := by
  have e : ∀ (c : CK) (j : Nat), c.val ρ' k j i = c.val ρ k j i ∧ (c.fits ρ' k j i ↔ c.fits ρ k j i) := fun c j => by
    cases c <;> simp [CK.val, CK.fits, Env.slc, h.fn, h.fb, h.es]
  unfold CK.elem
  simp only [h.mv, (e _ _).1, (e _ _).2]
def R.pat (σ : Sub) (y x : R) : Bool := y.e.sm 0 && (y.e.sub σ).same x.e
def R.fit (ρ : Env) (r : R) : Prop := r.lo ≤ r.e.i ρ ∧ r.e.i ρ ≤ r.hi
mutual
def SV.rs : SV → List R
  | .int _ r => [r]
  | .slv _ _ l => [l]
  | .osl _ _ l => [l]
  | .optr _ _ l _ => [l]
  | .err r => [r]
  | .ifc _ v => v.rs
  | .fn _ l => SV.rsL l
  | .agg l => SV.rsL l
  | .tup l => SV.rsL l
  | _ => []
def SV.rsL : List SV → List R
  | [] => []
  | a :: l => a.rs ++ SV.rsL l
end
theorem R.pat_ok {σ : Sub} {ρ ρ' : Env} (h : Reads σ ρ ρ') {y x : R} (hp : y.pat σ x = true) : y.e.i ρ' = x.e.i ρ := by
  simp only [R.pat, Bool.and_eq_true] at hp
  rw [(E.sub_ok h y.e).1 hp.1, E.same_eq hp.2]
mutual
def SV.pat (σ : Sub) : SV → SV → Bool
  | .int k y, .int j x => decide (k = j) && y.pat σ x
  | .bool y, .bool x => y.sm 1 && (y.sub σ).same x
  | .nilp, .nilp => true
  | .ptr n o, .ptr m p => Nat.beq n m && Nat.beq o p
  | .nils, .nils => true
  | .sl n o l c, .sl m p k d => Nat.beq n m && Nat.beq o p && Nat.beq l k && decide (c = d)
  | .slv n o l, .slv m p k => Nat.beq n m && Nat.beq o p && l.pat σ k && decide (0 ≤ l.lo)
  | .emp n, .emp m => Nat.beq n m
  | .osl n s l, .osl m t k => Nat.beq n m && decide (s = t) && l.pat σ k && decide (0 ≤ l.lo)
  | .esl n i, .esl m j => Nat.beq n m && i.sm 0 && (i.sub σ).same j
  | .optr n s l o, .optr m t k p => Nat.beq n m && decide (s = t) && l.pat σ k && Nat.beq o p
  | .nili, .nili => true
  | .ifc t v, .ifc u x => decide (t = u) && v.pat σ x
  | .err y, .err x => y.pat σ x
  | .nilf, .nilf => true
  | .fn f l, .fn g m => decide (f = g) && SV.patL σ l m
  | .agg l, .agg m => SV.patL σ l m
  | .tup l, .tup m => SV.patL σ l m
  | _, _ => false
def SV.patL (σ : Sub) : List SV → List SV → Bool
  | [], [] => true
  | a :: l, c :: m => a.pat σ c && SV.patL σ l m
  | _, _ => false
end
mutual
theorem SV.pat_ok {σ : Sub} {ρ ρ' : Env} (h : Reads σ ρ ρ') (b : Bd) {N M : Nat → Prop} : (y x : SV) → y.pat σ x = true → (∀ n ∈ y.names, M n) → (∀ r ∈ y.rs, r.fit ρ') → y.den ρ' b = x.den ρ b ∧ (x.ok ρ N → y.ok ρ' M)
  | .int k y, x, hp, _, hf => by
    cases x <;> simp only [SV.pat, Bool.and_eq_true, decide_eq_true_eq, Bool.false_eq_true] at hp
    obtain ⟨rfl, hp⟩ := hp
    have h1 := R.pat_ok h hp
    exact ⟨by simp only [SV.den, h1], fun _ => hf y (by simp [SV.rs])⟩
  | .bool y, x, hp, _, _ => by
    cases x <;> simp only [SV.pat, Bool.and_eq_true, Bool.false_eq_true] at hp
    exact ⟨by simp only [SV.den, (E.sub_ok h y).2.1 hp.1, E.same_eq hp.2], fun _ => trivial⟩
  | .nilp, x, hp, _, _ => by cases x <;> simp only [SV.pat, Bool.false_eq_true] at hp; exact ⟨rfl, fun _ => trivial⟩
  | .ptr n o, x, hp, hm, hf => by
    cases x <;> simp only [SV.pat, Bool.and_eq_true, Bool.false_eq_true] at hp
    have e1 := Nat.eq_of_beq_eq_true hp.1
    have e2 := Nat.eq_of_beq_eq_true hp.2
    subst e1 e2
    exact ⟨rfl, fun _ => hm _ (by simp [SV.names])⟩
  | .nils, x, hp, _, _ => by cases x <;> simp only [SV.pat, Bool.false_eq_true] at hp; exact ⟨rfl, fun _ => trivial⟩
  | .sl n o l c, x, hp, hm, hf => by
    cases x <;> simp only [SV.pat, Bool.and_eq_true, decide_eq_true_eq, Bool.false_eq_true] at hp
    obtain ⟨⟨⟨h1, h2⟩, h3⟩, h4⟩ := hp
    have e1 := Nat.eq_of_beq_eq_true h1
    have e2 := Nat.eq_of_beq_eq_true h2
    have e3 := Nat.eq_of_beq_eq_true h3
    subst e1 e2 e3 h4
    exact ⟨rfl, fun _ => hm _ (by simp [SV.names])⟩
  | .slv n o l, x, hp, hm, hf => by
    cases x <;> simp only [SV.pat, Bool.and_eq_true, decide_eq_true_eq, Bool.false_eq_true] at hp
    obtain ⟨⟨⟨h1, h2⟩, h3⟩, h4⟩ := hp
    have k1 := R.pat_ok h h3
    have e1 := Nat.eq_of_beq_eq_true h1
    have e2 := Nat.eq_of_beq_eq_true h2
    subst e1 e2
    exact ⟨by simp only [SV.den, k1], fun hx => ⟨hm _ (by simp [SV.names]), hf l (by simp [SV.rs]), h4⟩⟩
  | .emp n, x, hp, _, _ => by
    cases x <;> simp only [SV.pat, Bool.false_eq_true] at hp
    rw [Nat.eq_of_beq_eq_true hp]
    exact ⟨by simp only [SV.den, h.ov], fun _ => trivial⟩
  | .osl n s l, x, hp, _, hf => by
    cases x <;> simp only [SV.pat, Bool.and_eq_true, decide_eq_true_eq, Bool.false_eq_true] at hp
    obtain ⟨⟨⟨h1, h2⟩, h3⟩, h4⟩ := hp
    have k1 := R.pat_ok h h3
    rw [Nat.eq_of_beq_eq_true h1, h2]
    exact ⟨by simp only [SV.den, k1, h.ov], fun hx => ⟨hf l (by simp [SV.rs]), h4, fun i hi => (h.elem _ _ _).2 (hx.2.2.1 i (by rw [← k1]; exact hi)), by rw [k1, h.ol]; exact hx.2.2.2⟩⟩
  | .esl n i, x, hp, _, _ => by
    cases x <;> simp only [SV.pat, Bool.and_eq_true, Bool.false_eq_true] at hp
    obtain ⟨⟨h1, h2⟩, h3⟩ := hp
    have e := (E.sub_ok h i).1 h2
    rw [E.same_eq h3] at e
    rw [Nat.eq_of_beq_eq_true h1]
    refine ⟨by simp only [SV.den, Env.slc, e, h.es], fun hx => ?_⟩
    simp only [SV.ok, e, h.es, h.fn]
    exact hx
  | .optr n s l o, x, hp, _, hf => by
    cases x <;> simp only [SV.pat, Bool.and_eq_true, decide_eq_true_eq, Bool.false_eq_true] at hp
    obtain ⟨⟨⟨h1, h2⟩, h3⟩, h4⟩ := hp
    have k1 := R.pat_ok h h3
    rw [Nat.eq_of_beq_eq_true h1, h2, Nat.eq_of_beq_eq_true h4]
    exact ⟨by simp only [SV.den, k1, h.ov], fun hx => ⟨hf l (by simp [SV.rs]), by rw [k1]; exact hx.2.1, by rw [k1]; exact (h.elem _ _ _).2 hx.2.2.1, by rw [h.ov]; exact hx.2.2.2⟩⟩
  | .nili, x, hp, _, _ => by cases x <;> simp only [SV.pat, Bool.false_eq_true] at hp; exact ⟨rfl, fun _ => trivial⟩
  | .ifc t v, x, hp, hm, hf => by
    cases x <;> simp only [SV.pat, Bool.and_eq_true, decide_eq_true_eq, Bool.false_eq_true] at hp
    obtain ⟨rfl, hp⟩ := hp
    obtain ⟨h1, h2⟩ := SV.pat_ok h b v _ hp (fun n hn => hm n (by simpa [SV.names] using hn)) (fun r hr => hf r (by simpa [SV.rs] using hr))
    exact ⟨by simp only [SV.den, h1], h2⟩
  | .err y, x, hp, _, hf => by
    cases x <;> simp only [SV.pat, Bool.false_eq_true] at hp
    have h1 := R.pat_ok h hp
    exact ⟨by simp only [SV.den, h1, h.et], fun _ => hf y (by simp [SV.rs])⟩
  | .nilf, x, hp, _, _ => by cases x <;> simp only [SV.pat, Bool.false_eq_true] at hp; exact ⟨rfl, fun _ => trivial⟩
  | .fn f l, x, hp, hm, hf => by
    cases x <;> simp only [SV.pat, Bool.and_eq_true, decide_eq_true_eq, Bool.false_eq_true] at hp
    obtain ⟨rfl, hp⟩ := hp
    obtain ⟨h1, h2⟩ := SV.patL_ok h b l _ hp (fun n hn => hm n (by simpa [SV.names] using hn)) (fun r hr => hf r (by simpa [SV.rs] using hr))
    exact ⟨by simp only [SV.den, h1], h2⟩
  | .agg l, x, hp, hm, hf => by
    cases x <;> simp only [SV.pat, Bool.false_eq_true] at hp
    obtain ⟨h1, h2⟩ := SV.patL_ok h b l _ hp (fun n hn => hm n (by simpa [SV.names] using hn)) (fun r hr => hf r (by simpa [SV.rs] using hr))
    exact ⟨by simp only [SV.den, h1], h2⟩
  | .tup l, x, hp, hm, hf => by
    cases x <;> simp only [SV.pat, Bool.false_eq_true] at hp
    obtain ⟨h1, h2⟩ := SV.patL_ok h b l _ hp (fun n hn => hm n (by simpa [SV.names] using hn)) (fun r hr => hf r (by simpa [SV.rs] using hr))
    exact ⟨by simp only [SV.den, h1], h2⟩
  | .con v, x, hp, _, _ => by cases x <;> simp only [SV.pat, Bool.false_eq_true] at hp
theorem SV.patL_ok {σ : Sub} {ρ ρ' : Env} (h : Reads σ ρ ρ') (b : Bd) {N M : Nat → Prop} : (y x : List SV) → SV.patL σ y x = true → (∀ n ∈ SV.namesL y, M n) → (∀ r ∈ SV.rsL y, r.fit ρ') → SV.denL ρ' b y = SV.denL ρ b x ∧ (SV.okL ρ N x → SV.okL ρ' M y)
  | [], x, hp, _, _ => by cases x <;> simp only [SV.patL, Bool.false_eq_true] at hp; exact ⟨rfl, fun _ => trivial⟩
  | a :: l, x, hp, hm, hf => by
    cases x with
    | nil => simp only [SV.patL, Bool.false_eq_true] at hp
    | cons c m =>
      simp only [SV.patL, Bool.and_eq_true] at hp
      obtain ⟨h1, h2⟩ := SV.pat_ok h b (N := N) a c hp.1 (fun n hn => hm n (by simp [SV.namesL, hn])) (fun r hr => hf r (by simp [SV.rsL, hr]))
      obtain ⟨k1, k2⟩ := SV.patL_ok h b (N := N) l m hp.2 (fun n hn => hm n (by simp [SV.namesL, hn])) (fun r hr => hf r (by simp [SV.rsL, hr]))
      exact ⟨by simp only [SV.denL, h1, k1], fun hx => ⟨h2 hx.1, k2 hx.2⟩⟩
end
def St.pat (σ : Sub) (y x : St) : Bool :=
  Nat.beq y.nt x.nt
  && y.tmps.all (fun p => p.2.g.isEmpty && (p.2.sv.names.all fun m => Nat.blt m y.next) && match find x.tmps p.1 with | some e => e.g.isEmpty && p.2.sv.pat σ e.sv | none => false)
  && y.heap.all (fun p => p.2.g.isEmpty && Nat.blt p.1 y.next && ((SV.namesL p.2.blk.cells).all fun m => Nat.blt m y.next) && match find x.heap p.1 with | some e => e.g.isEmpty && decide (p.2.blk.kind = e.blk.kind) && decide (p.2.blk.elem = e.blk.elem) && SV.patL σ p.2.blk.cells e.blk.cells | none => false)
def St.rs (y : St) : List R := (y.tmps.flatMap fun p => p.2.sv.rs) ++ y.heap.flatMap fun p => SV.rsL p.2.blk.cells
theorem St.pat_ok {σ : Sub} {ρ ρ' : Env} (h : Reads σ ρ ρ') {y x : St} (hp : y.pat σ x = true) (hfit : ∀ r ∈ y.rs, r.fit ρ') {b : Bd} {base : Nat → Prop} {w0 w : World} {tm : Array Value} (hr : Rel ρ b base w0 w x tm) : Rel ρ' b base w0 w y tm := by
  simp only [St.pat, Bool.and_eq_true, List.all_eq_true] at hp
  obtain ⟨⟨h0, h1⟩, h2⟩ := hp
  have hH : ∀ n e, find y.heap n = some e → e.g = [] ∧ n < y.next ∧ (∀ m ∈ SV.namesL e.blk.cells, m < y.next) ∧ ∃ u, find x.heap n = some u ∧ u.g = [] ∧ e.blk.kind = u.blk.kind ∧ e.blk.elem = u.blk.elem ∧ SV.patL σ e.blk.cells u.blk.cells = true := by
    intro n e hf
    obtain ⟨⟨⟨g1, g2⟩, g3⟩, g4⟩ := h2 _ (find_mem hf)
    refine ⟨by simpa using g1, blt_lt g2, fun m hm => blt_lt (g3 m hm), ?_⟩
    split at g4
    · rename_i u hu
      simp only [Bool.and_eq_true, decide_eq_true_eq] at g4
      exact ⟨u, hu, by simpa using g4.1.1.1, g4.1.1.2, g4.1.2, g4.2⟩
    · cases g4
  refine ⟨⟨fun n e hf _ => ?_, fun n m e k hf hk hg hgk ho hok heq => ?_⟩, fun i e hf => ?_, hr.below, hr.base, hr.nt.trans (Nat.eq_of_beq_eq_true h0).symm, hr.kept.of h.mv h.ov h.es h.mn⟩
  · obtain ⟨g1, g2, g3, u, u1, u2, u3, u4, u5⟩ := hH n e hf
    obtain ⟨m1, m2, m3⟩ := hr.heap.mem n u u1 (by rw [u2]; exact allB_nil ρ)
    obtain ⟨k1, k2⟩ := SV.patL_ok h b (N := (· < x.next)) (M := (· < y.next)) _ _ u5 g3 (fun r hr => hfit r (List.mem_append.2 (.inr (List.mem_flatMap.2 ⟨(n, e), find_mem hf, hr⟩))))
    refine ⟨g2, ?_, k2 m3⟩
    have hl : e.blk.cells.length = u.blk.cells.length := by have := congrArg List.length k1; simpa [denL_length] using this
    have hgt : ∀ (i : Nat) (v : SV), e.blk.cells[i]? = some v → ∃ z : SV, u.blk.cells[i]? = some z ∧ v.den ρ' b = z.den ρ b := by
      intro i v hi
      have e1 : (SV.denL ρ' b e.blk.cells)[i]? = some (v.den ρ' b) := by rw [denL_get, hi]; rfl
      rw [k1, denL_get] at e1
      cases hz : u.blk.cells[i]? with
      | none => rw [hz] at e1; cases e1
      | some z => rw [hz] at e1; exact ⟨z, rfl, (Option.some.inj e1).symm⟩
    unfold Blk.ok at m2 ⊢
    rw [u3, u4, k1]
    split at m2
    · exact m2
    · obtain ⟨a1, a2, arr, a3, a4, a5, a6⟩ := m2
      exact ⟨a1, a2, arr, a3, a4, by rw [hl]; exact a5, fun i v hi => by obtain ⟨z, z1, z2⟩ := hgt i v hi; rw [z2]; exact a6 i z z1⟩
    · exact ⟨m2.1, fun i v hi => by obtain ⟨z, z1, z2⟩ := hgt i v hi; rw [z2]; exact m2.2 i z z1⟩
  · obtain ⟨g1, g2, g3, u, u1, u2, u3, u4, u5⟩ := hH n e hf
    obtain ⟨f1, f2, f3, t, t1, t2, t3, t4, t5⟩ := hH m k hk
    exact hr.heap.inj n m u t u1 t1 (by rw [u2]; exact allB_nil ρ) (by rw [t2]; exact allB_nil ρ) (by simpa [Blk.own, u3] using ho) (by simpa [Blk.own, t3] using hok) heq
  · obtain ⟨⟨g1, g2⟩, g3⟩ := h1 _ (find_mem hf)
    split at g3
    · rename_i u hu
      simp only [Bool.and_eq_true] at g3
      have ug : u.g = [] := by simpa using g3.1
      have eg : e.g = [] := by simpa using g1
      obtain ⟨t1, t2⟩ := (hr.tmps i u hu).1 (by rw [ug]; exact allB_nil ρ)
      obtain ⟨k1, k2⟩ := SV.pat_ok h b (N := (· < x.next)) (M := (· < y.next)) _ _ g3.2 (fun n hn => blt_lt (by simpa using g2 n hn)) (fun r hr => hfit r (List.mem_append.2 (.inl (List.mem_flatMap.2 ⟨(i, e), find_mem hf, hr⟩))))
      exact ⟨fun _ => ⟨by rw [k1]; exact t1, k2 t2⟩, fun hn => absurd (by rw [eg]; exact allB_nil ρ') hn⟩
    · cases g3
end Go.Proofs.Ytdfpenjhpemokaa.Sx
/-
  A verified symbolic executor: pieces of code, whose ends are told; functions cut at a loop.
-/
namespace Go.Proofs.Ytdfpenjhpemokaa.Sx
open Go.RowKit (Below)

structure LS where
  pc : List E
  x : XK
  S : St
  σ : Sub
def T.leaves {α : Type} : List E → T α → List (List E × α)
  | pc, .leaf x => [(pc, x)]
  | pc, .node c t u => T.leaves (c :: pc) t ++ T.leaves (mkNot c :: pc) u
theorem T.leaves_at {α : Type} {ρ : Env} : ∀ (t : T α) (pc : List E), allB ρ pc → ∃ q, (q, t.at ρ) ∈ t.leaves pc ∧ allB ρ q := by
  intro t
  induction t with
  | leaf x => intro pc h; exact ⟨pc, .head _, h⟩
  | node c t u iht ihu =>
    intro pc h
    simp only [T.leaves, T.at]
    by_cases hc : c.b ρ = true
    · obtain ⟨q, h1, h2⟩ := iht (c :: pc) (allB_cons hc h)
      rw [if_pos hc]
      exact ⟨q, List.mem_append_left _ h1, h2⟩
    · have hc' : (mkNot c).b ρ = true := by rw [mkNot_b]; simpa using hc
      obtain ⟨q, h1, h2⟩ := ihu (mkNot c :: pc) (allB_cons hc' h)
      rw [if_neg hc]
      exact ⟨q, List.mem_append_right _ h1, h2⟩
def LS.fits (s : LS) (l : List E × Lf) : Bool := sub s.pc l.1 && decide (s.x = l.2.x) && s.S.pat s.σ l.2.st
def fitL : List LS → List (List E × Lf) → Bool
  | [], [] => true
  | s :: l, x :: m => s.fits x && fitL l m
  | _, _ => false
theorem fitL_mem : ∀ {l : List LS} {m : List (List E × Lf)} {x : List E × Lf}, fitL l m = true → x ∈ m → ∃ s ∈ l, s.fits x = true := by
  intro l
  induction l with
  | nil => intro m x h hx; cases m with | nil => cases hx | cons => cases h
  | cons s l ih =>
    intro m x h hx
    cases m with
    | nil => cases hx
    | cons y m =>
      simp only [fitL, Bool.and_eq_true] at h
      cases hx with
      | head => exact ⟨s, .head _, h.1⟩
      | tail _ hx =>
        obtain ⟨s', h1, h2⟩ := ih h.2 hx
        exact ⟨s', .tail _ h1, h2⟩
def Code.flat : Code → List Code
  | .seq x y => Code.flat x ++ Code.flat y
  | .skip => []
  | c => [c]
def wpL (P : Program) : List Code → (Exit → Act → World → Prop) → Act → World → Prop
  | [], Q, a, w => Q .normal a w
  | c :: l, Q, a, w => c.wp P (Exit.then (wpL P l Q) Q) a w
theorem then_mono {K K' : Act → World → Prop} {Q Q' : Exit → Act → World → Prop} (hK : ∀ a w, K a w → K' a w) (hQ : ∀ e a w, Q e a w → Q' e a w) (e : Exit) (a : Act) (w : World) (h : Exit.then K Q e a w) : Exit.then K' Q' e a w := by
  cases e <;> simp only [Exit.then] at h ⊢ <;> first | exact hK _ _ h | exact hQ _ _ _ h
theorem wpL_mono {P : Program} : ∀ {l : List Code} {Q Q' : Exit → Act → World → Prop}, (∀ e a w, Q e a w → Q' e a w) → ∀ a w, wpL P l Q a w → wpL P l Q' a w := by
  intro l
  induction l with
  | nil => intro Q Q' h a w hq; exact h _ _ _ hq
  | cons c l ih => intro Q Q' h a w hq; exact wp_mono hq (then_mono (ih h) h)
theorem wpL_app {P : Program} : ∀ {l m : List Code} {Q : Exit → Act → World → Prop} {a : Act} {w : World}, wpL P (l ++ m) Q a w ↔ wpL P l (Exit.then (wpL P m Q) Q) a w := by
  intro l
  induction l with
  | nil => intro m Q a w; exact Iff.rfl
  | cons c l ih =>
    intro m Q a w
    simp only [List.cons_append, wpL]
    refine ⟨fun h => wp_mono h ?_, fun h => wp_mono h ?_⟩ <;> intro e a w h <;> cases e <;> simp only [Exit.then] at h ⊢ <;> first | exact ih.1 h | exact ih.2 h | exact h
theorem wp_flat {P : Program} : ∀ (c : Code) {Q : Exit → Act → World → Prop} {a : Act} {w : World}, wpL P (Code.flat c) Q a w → c.wp P Q a w := by
  intro c
  have one : ∀ (c : Code) {Q : Exit → Act → World → Prop} {a : Act} {w : World}, wpL P [c] Q a w → c.wp P Q a w := fun c Q a w h => wp_mono h (by intro e a w h; cases e <;> exact h)
  induction c with
  | seq x y ihx ihy =>
    intro Q a w h
    simp only [Code.flat] at h
    rw [wpL_app] at h
    refine wp_seq (ihx (wpL_mono ?_ _ _ h))
    intro e a w h
    cases e <;> simp only [Exit.then] at h ⊢ <;> first | exact ihy h | exact h
  | skip => intro Q a w h; exact wp_skip h
  | _ => intro Q a w h; exact one _ h
def partsOf (P : Program) (f : FuncId) : List Code := match P.funcs[f]? with
  | some fn => match fn.body with
    | some c => Code.flat c
    | none => []
  | none => []
def execL (P : Program) (et : TypeId) (h : Handler) (drw : Array Oper → List E → St → Option (T St × List VC)) (c : Fc) : List Code → List E → St → Option (T Lf × List VC)
  | [], _, S => some (.leaf ⟨.normal, S⟩, [])
  | x :: y, pc, S =>
    match exec P et h drw c x pc S with
    | some (t, v) => match T.bind (fun pc l => match l.x with
        | .normal => execL P et h drw c y pc l.st
        | _ => some (.leaf l, [])) pc t with
      | some (t', v') => some (T.nrm et c.lit c.big S.next t' (v ++ v'))
      | none => none
    | none => none
theorem execL_ok {P : Program} {et : TypeId} {h : Handler} {ρ : Env} (he : ρ.et = et) (hh : HOK P ρ h) {drw : Array Oper → List E → St → Option (T St × List VC)} (hd : DOK P ρ drw) {c : Fc} : ∀ (x : List Code) (pc : List E) (S : St) (t : T Lf) (vs : List VC), execL P et h drw c x pc S = some (t, vs) → allB ρ pc → allV ρ vs →
    ∀ b base w0 w a, Rel ρ b base w0 w S a.tmps → wpL P x (Goes ρ base w0 b S.next (t.at ρ) a.defers) a w := by
  intro x
  induction x with
  | nil =>
    intro pc S t vs hs hpc hv b base w0 w a hr
    cases hs
    exact ⟨rfl, rfl, b, Agree.refl b _, hr, Nat.le_refl _⟩
  | cons x y ihy =>
    intro pc S t vs hs hpc hv b base w0 w a hr
    simp only [execL] at hs
    split at hs
    · rename_i t1 v1 h1
      split at hs
      · rename_i t2 v2 h2
        obtain ⟨rfl, rfl⟩ := nrm_some hs
        have hv0 := hv
        have hv := (T.nrm_ok he hv).1
        rw [allV_app] at hv
        obtain ⟨pc', r', vs', a1, a2, a3, a4⟩ := T.bind_ok h2 hpc hv.2
        refine wp_mono (exec_ok he hh hd x _ _ _ _ h1 hpc hv.1 b base w0 w a hr) ?_
        rintro e a' w' ⟨g1, g2, b', g3, g4, g5⟩
        generalize (t1.at ρ) = l at *
        obtain ⟨xk, st⟩ := l
        cases xk with
        | normal =>
          simp only [XK.ex] at g1
          subst g1
          simp only [Exit.then]
          refine wpL_mono ?_ _ _ (ihy _ _ _ _ a1 a2 a3 b' base w0 w' a' g4)
          rintro e a2' w2 ⟨k1, k2, b2, k3, k4, k5⟩
          refine Goes.nrm he hv0 ?_
          rw [a4]
          exact ⟨k1, k2.trans g2, b2, g3.trans k3 (fun n hn => Nat.lt_of_lt_of_le hn g5), k4, Nat.le_trans g5 k5⟩
        | exit id =>
          cases a1
          subst g1
          refine Goes.nrm he hv0 ?_
          rw [a4]
          exact ⟨rfl, g2, b', g3, g4, g5⟩
        | ret =>
          cases a1
          subst g1
          refine Goes.nrm he hv0 ?_
          rw [a4]
          exact ⟨rfl, g2, b', g3, g4, g5⟩
      · cases hs
    · cases hs
def ran (r : Option (T Lf × List VC)) (l : List LS) (vcs : List VC) : Bool := match r with
  | some (t, vs) => fitL l (t.leaves []) && vs.all fun v => v.triv || vcs.any fun u => v.same u
  | none => false
def Ends (ρ : Env) (base : Nat → Prop) (w0 : World) (b : Bd) (nx : Nat) (l : List LS) (dfs : List Deferred) : Exit → Act → World → Prop := fun e a' w' =>
  a'.defers = dfs ∧ ∃ s ∈ l, e = s.x.ex ∧ allB ρ s.pc ∧ ∃ b', Agree b b' (· < nx) ∧ ∀ ρ', Reads s.σ ρ ρ' → (∀ r ∈ s.S.rs, r.fit ρ') → Rel ρ' b' base w0 w' s.S a'.tmps
theorem ran_ok {P : Program} {et : TypeId} {h : Handler} {ρ : Env} (he : ρ.et = et) (hh : HOK P ρ h) {drw : Array Oper → List E → St → Option (T St × List VC)} (hd : DOK P ρ drw) {c : Fc} {x : List Code} {S : St} {l : List LS} {vcs : List VC} (hr : ran (execL P et h drw c x [] S) l vcs = true) (hv : allV ρ vcs)
    {b : Bd} {base : Nat → Prop} {w0 w : World} {a : Act} (hrel : Rel ρ b base w0 w S a.tmps) : wpL P x (Ends ρ base w0 b S.next l a.defers) a w := by
  unfold ran at hr
  split at hr
  · rename_i t vs hex
    rw [Bool.and_eq_true, List.all_eq_true] at hr
    have hvs : allV ρ vs := fun v hv' => by
      have := hr.2 v hv'
      rw [Bool.or_eq_true] at this
      rcases this with this | this
      · exact VC.triv_ok this ρ
      rw [List.any_eq_true] at this
      obtain ⟨u, hu, hs⟩ := this
      rw [VC.same_eq hs]
      exact hv u hu
    refine wpL_mono ?_ _ _ (execL_ok he hh hd x [] S t vs hex (allB_nil ρ) hvs b base w0 w a hrel)
    rintro e a' w' ⟨h1, h2, b', h3, h4, h5⟩
    obtain ⟨q, q1, q2⟩ := T.leaves_at (ρ := ρ) t [] (allB_nil ρ)
    obtain ⟨s, s1, s2⟩ := fitL_mem hr.1 q1
    simp only [LS.fits, Bool.and_eq_true, decide_eq_true_eq] at s2
    exact ⟨h2, s, s1, by rw [h1, s2.1.2], sub_ok s2.1.1 q2, b', h3, fun ρ' hρ hf => St.pat_ok hρ s2.2 hf h4⟩
  · cases hr

def partOf (P : Program) (f : FuncId) (i j : Nat) : List Code := ((partsOf P f).drop i).take (j - i)
def loopOf (P : Program) (f : FuncId) (k : Nat) : List Code := match (partsOf P f)[k]? with
  | some (.block _ (.loop x)) => Code.flat x
  | _ => []
def loopAt (P : Program) (f : FuncId) (k i : Nat) : Bool := match (partsOf P f)[k]? with
  | some (.block j (.loop _)) => Nat.beq i j
  | _ => false
theorem wp_loopAt {P : Program} {f : FuncId} {k i : Nat} (hl : loopAt P f k i = true) {J : Nat → Act → World → Prop} {Q : Exit → Act → World → Prop} {n : Nat} {a : Act} {w : World} (h0 : J n a w)
    (hr : ∀ n a w, J n a w → wpL P (loopOf P f k) (fun e a' w' => match e with | .normal => ∃ m, m < n ∧ J m a' w' | .exit j => if j = i then Q .normal a' w' else Q (.exit j) a' w' | e => Q e a' w') a w) : ∀ c, (partsOf P f)[k]? = some c → c.wp P Q a w := by
  intro c hc
  unfold loopAt at hl
  rw [hc] at hl
  split at hl
  · rename_i j x he
    cases he
    have := Nat.eq_of_beq_eq_true hl
    subst this
    have key : ∀ k' m a w, m < k' → J m a w → Code.rounds P x (Exit.inBlock i Q) k' a w := by
      intro k'
      induction k' with
      | zero => intro m a w h; omega
      | succ k' ih =>
        intro m a w hm hJ
        rw [rounds_succ]
        have key := hr m a w hJ
        unfold loopOf at key
        rw [hc] at key
        refine wp_flat x (wpL_mono ?_ _ _ key)
        intro e a' w' h
        cases e <;> simp only [Exit.then, Exit.inBlock] at h ⊢ <;> first | exact h | skip
        obtain ⟨m', h1, h2⟩ := h
        exact ih m' a' w' (by omega) h2
    exact wp_block (wp_loop_rounds (n + 1) (key (n + 1) n a w (Nat.lt_succ_self n) h0))
  · cases hl
theorem calls_cut {P : Program} {f : FuncId} {args : Array Value} {w : World} {R : Ending → World → Prop} {fn : Func} (hf : P.funcs[f]? = some fn) (hb : fn.body.isSome = true) {k n : Nat} {c : Code} (hc : (partsOf P f)[k]? = some c) (hn : (partsOf P f).length ≤ n)
    (h : wpL P (partOf P f 0 k) (Exit.then (fun a w => c.wp P (Exit.then (fun a w => wpL P (partOf P f (k + 1) n) (bodyPost P fn R) a w) (bodyPost P fn R)) a w) (bodyPost P fn R)) ⟨args ++ Array.replicate (fn.ntmps - args.size) undef, []⟩ w) : Calls P f args w R := by
  cases hbb : fn.body with
  | none => rw [hbb] at hb; cases hb
  | some body =>
    refine calls_of_wp hf hbb (wp_flat body ?_)
    have e : Code.flat body = partOf P f 0 k ++ ([c] ++ partOf P f (k + 1) n) := by
      have e0 : partsOf P f = Code.flat body := by unfold partsOf; rw [hf]; simp only [hbb]
      unfold partOf
      rw [← e0]
      obtain ⟨hk, hck⟩ := List.getElem?_eq_some_iff.1 hc
      have e1 : ((partsOf P f).drop (k + 1)).take (n - (k + 1)) = (partsOf P f).drop (k + 1) := List.take_of_length_le (by rw [List.length_drop]; omega)
      rw [e1, List.drop_zero, Nat.sub_zero, ← hck, List.singleton_append, ← List.drop_eq_getElem_cons hk, List.take_append_drop]
    rw [e, wpL_app]
    refine wpL_mono ?_ _ _ h
    intro e a w h
    cases e <;> simp only [Exit.then] at h ⊢ <;> first | exact h | skip
theorem calls_whole {P : Program} {f : FuncId} {args : Array Value} {w : World} {R : Ending → World → Prop} {fn : Func} (hf : P.funcs[f]? = some fn) (hb : fn.body.isSome = true) (h : wpL P (partsOf P f) (bodyPost P fn R) ⟨args ++ Array.replicate (fn.ntmps - args.size) undef, []⟩ w) : Calls P f args w R := by
  cases hbb : fn.body with
  | none => rw [hbb] at hb; cases hb
  | some body =>
    refine calls_of_wp hf hbb (wp_flat body ?_)
    unfold partsOf at h
    rw [hf] at h
    simp only [hbb] at h
    exact h
def start (P : Program) (f : FuncId) (args : List SV) (H : List (Nat × HEnt)) (nx : Nat) : St := match P.funcs[f]? with
  | some fn => ⟨argsT args, H, nx, args.length + (fn.ntmps - args.length)⟩
  | none => ⟨[], [], 0, 0⟩
theorem start_ok {P : Program} {f : FuncId} {fn : Func} (hf : P.funcs[f]? = some fn) {ρ : Env} {b : Bd} {base : Nat → Prop} {w0 w : World} {args : List SV} {H : List (Nat × HEnt)} {nx : Nat} (hH : HRel ρ b base w H (· < nx)) (hmem : Mem ρ base w0) (hbel : Kept base w0 w) (hbase : ∀ k, base k → k < w.heap.size) (hargs : SV.okL ρ (· < nx) args) :
    Rel ρ b base w0 w (start P f args H nx) ((SV.denL ρ b args).toArray ++ Array.replicate (fn.ntmps - (SV.denL ρ b args).toArray.size) undef) := by
  unfold start
  rw [hf]
  refine ⟨hH, fun i e hfe => ?_, hbel, hbase, by simp [denL_length], hmem⟩
  obtain ⟨v, _, h2, rfl⟩ := argsT_find args 0 i e hfe
  simp only [Nat.sub_zero] at h2
  have hl := (List.getElem?_eq_some_iff.1 h2).1
  refine ⟨fun _ => ⟨?_, okL_get hargs h2⟩, fun hn => absurd (allB_nil ρ) hn⟩
  rw [Array.getElem?_append_left (by simpa [denL_length] using hl)]
  simp [denL_get, h2]
def resultsOf (P : Program) (f : FuncId) (S : St) : Option (List SV) := match P.funcs[f]? with
  | some fn => sResults P S fn.results.toList
  | none => none
theorem ret_ok {P : Program} {f : FuncId} {fn : Func} (hf : P.funcs[f]? = some fn) {S : St} {rs : List SV} (hr : resultsOf P f S = some rs) {ρ : Env} {b : Bd} {base : Nat → Prop} {w0 w : World} {a : Act} {R : Ending → World → Prop} {e : Exit} (he : e = .normal ∨ e = .ret) (hd : a.defers = []) (h : Rel ρ b base w0 w S a.tmps) (hR : (oneOrTup rs).ok ρ (· < S.next) → R (.returned ((oneOrTup rs).den ρ b)) w) :
    bodyPost P fn R e a w := by
  unfold resultsOf at hr
  rw [hf] at hr
  obtain ⟨r1, r2⟩ := run_results h hr
  rcases he with rfl | rfl
  · exact ⟨hd, _, r1, hR r2⟩
  · exact ⟨hd, _, r1, hR r2⟩
def andB (ρ : Env) : List E → Prop
  | [] => True
  | e :: l => e.b ρ = true ∧ andB ρ l
theorem andB_of {ρ : Env} : ∀ {l : List E}, allB ρ l → andB ρ l := by
  intro l
  induction l with
  | nil => intro _; trivial
  | cons e l ih => intro h; exact ⟨h e (.head _), ih fun x hx => h x (.tail _ hx)⟩
def VC.isNo (v : VC) : Bool := match dfOf v with
  | .no => true
  | _ => false
def andV (ρ : Env) : List VC → Prop
  | [] => True
  | v :: l => (andB ρ v.pc → v.e.b ρ = true) ∧ andV ρ l
theorem allV_of {ρ : Env} : ∀ {l : List VC}, andV ρ l → allV ρ l := by
  intro l
  induction l with
  | nil => intro _ v h; cases h
  | cons a l ih =>
    intro h v hv
    cases hv with
    | head => exact fun hp => h.1 (andB_of hp)
    | tail _ hv => exact ih h.2 v hv
theorem defs_left {l W : List VC} (h : defs l [] [] = W) (hn : W.all VC.isNo = true) (ρ : Env) : ∃ ρ', Same ρ ρ' [] [] ∧ saysL ρ' l ∧ (allV ρ' W → allV ρ' l) := by
  obtain ⟨ρ', h1, h2⟩ := defs_ok l [] [] ρ ⟨fun h e hm => (by cases hm), fun h e hm => (by cases hm)⟩
  rw [h] at h2
  refine ⟨ρ', h1, ?_, fun hW v hv => (h2 v hv).elim id (hW v)⟩
  have key : ∀ m : List VC, (∀ v ∈ m, v.holds ρ' ∨ v ∈ W) → saysL ρ' m := by
    intro m
    induction m with
    | nil => intro _; trivial
    | cons a m ih =>
      intro hm
      refine ⟨?_, ih fun v hv => hm v (.tail _ hv)⟩
      rcases hm a (.head _) with ha | ha
      · exact says_of ha
      · have := List.all_eq_true.1 hn a ha
        unfold VC.isNo at this
        unfold VC.says
        split at this
        · rename_i hd; rw [hd]; trivial
        · cases this
  exact key l h2
def runP (P : Program) (et : TypeId) (cfg : Cfg) (f : FuncId) (cs : List Code) (S : St) : Option (T Lf × List VC) := execL P et (callN P et cfg (runDraw P et) 20) (runDraw P et (callN P et cfg (runDraw P et) 20)) (cfg.fc f) cs [] S
theorem runP_ok {P : Program} {et : TypeId} {cfg : Cfg} {f : FuncId} {cs : List Code} {S : St} {l : List LS} {vcs : List VC} (hr : ran (runP P et cfg f cs S) l vcs = true) {ρ : Env} (he : ρ.et = et) (hs : HOK P ρ cfg.sum) (hv : allV ρ vcs)
    {b : Bd} {base : Nat → Prop} {w0 w : World} {a : Act} (hrel : Rel ρ b base w0 w S a.tmps) : wpL P cs (Ends ρ base w0 b S.next l a.defers) a w :=
  have hc := callN_ok he hs (fun h hh => runDraw_ok he h hh) 20
  ran_ok he hc (runDraw_ok he _ hc) hr hv hrel
theorem loop1_ret {P : Program} {et : TypeId} {cfg : Cfg} {f : FuncId} {fn : Func} (hf : P.funcs[f]? = some fn) (hb : fn.body.isSome = true) {k i n : Nat} (hn : (partsOf P f).length ≤ n) (hl : loopAt P f k i = true)
    {args : List SV} {H : List (Nat × HEnt)} {nx : Nat} {S1 : St} {L0 L1 L2 : List LS} {V0 V1 V2 W0 W1 W2 : List VC}
    (r0 : ran (runP P et cfg f (partOf P f 0 k) (start P f args H nx)) L0 V0 = true) (d0 : defs V0 [] [] = W0) (n0 : W0.all VC.isNo = true)
    (r1 : ran (runP P et cfg f (loopOf P f k) S1) L1 V1 = true) (d1 : defs V1 [] [] = W1) (n1 : W1.all VC.isNo = true)
    (r2 : ran (runP P et cfg f (partOf P f (k + 1) n) S1) L2 V2 = true) (d2 : defs V2 [] [] = W2) (n2 : W2.all VC.isNo = true)
    {V : Value} (J I I2 : Env → Prop) (μ : Env → Nat)
    (hJ : ∀ ρ, J ρ → ρ.et = et ∧ HOK P ρ cfg.sum) (hI : ∀ ρ, I ρ → ρ.et = et ∧ HOK P ρ cfg.sum)
    (sJ : ∀ ρ ρ', J ρ → Same ρ ρ' [] [] → J ρ') (sI : ∀ ρ ρ', I ρ → Same ρ ρ' [] [] → I ρ' ∧ μ ρ' = μ ρ) (i21 : ∀ ρ, I2 ρ → I ρ) (sI2 : ∀ ρ ρ', I2 ρ → Same ρ ρ' [] [] → I2 ρ')
    (self : (start P f args H nx).pat ⟨[], []⟩ (start P f args H nx) = true) (fit0 : ∀ ρ, J ρ → ∀ r ∈ (start P f args H nx).rs, r.fit ρ)
    (fit : ∀ ρ, I ρ → ∀ r ∈ S1.rs, r.fit ρ)
    (z0 : ∀ ρ, J ρ → saysL ρ V0 → andV ρ W0) (z1 : ∀ ρ, I ρ → saysL ρ V1 → andV ρ W1) (z2 : ∀ ρ, I2 ρ → saysL ρ V2 → andV ρ W2)
    (e0 : ∀ s ∈ L0, ∀ ρ, J ρ → saysL ρ V0 → andB ρ s.pc → (s.x = .ret ∧ (∀ r ∈ s.S.rs, r.fit (ρ.sub s.σ)) ∧ ∃ rs, resultsOf P f s.S = some rs ∧ ∀ b, (oneOrTup rs).den (ρ.sub s.σ) b = V) ∨ (s.x = .normal ∧ s.S = S1 ∧ I (ρ.sub s.σ)))
    (e1 : ∀ s ∈ L1, ∀ ρ, I ρ → saysL ρ V1 → andB ρ s.pc → (s.x = .normal ∧ s.S = S1 ∧ I (ρ.sub s.σ) ∧ μ (ρ.sub s.σ) < μ ρ) ∨ (s.x = .exit i ∧ s.S = S1 ∧ I2 (ρ.sub s.σ)) ∨ (s.x = .ret ∧ (∀ r ∈ s.S.rs, r.fit (ρ.sub s.σ)) ∧ ∃ rs, resultsOf P f s.S = some rs ∧ ∀ b, (oneOrTup rs).den (ρ.sub s.σ) b = V))
    (e2 : ∀ s ∈ L2, ∀ ρ, I2 ρ → saysL ρ V2 → andB ρ s.pc → (s.x = .normal ∨ s.x = .ret) ∧ (∀ r ∈ s.S.rs, r.fit (ρ.sub s.σ)) ∧ ∃ rs, resultsOf P f s.S = some rs ∧ ∀ b, (oneOrTup rs).den (ρ.sub s.σ) b = V)
    {ρ : Env} (hρ : J ρ) (b : Bd) (w : World) (hH : HRel ρ b (· < w.heap.size) w H (· < nx)) (ha : SV.okL ρ (· < nx) args) (hm : Mem ρ (· < w.heap.size) w) :
    Calls P f (SV.denL ρ b args).toArray w fun e w' => e = .returned V ∧ Below w.heap.size w w' := by
  obtain ⟨ρ1, hs1, hy1, hx1⟩ := defs_left d0 n0 ρ
  have hJ1 := sJ ρ ρ1 hρ hs1
  have hv1 := hx1 (allV_of (z0 ρ1 hJ1 hy1))
  obtain ⟨c, hc⟩ : ∃ c, (partsOf P f)[k]? = some c := by
    unfold loopAt at hl
    split at hl
    · rename_i j x hx; exact ⟨_, hx⟩
    · cases hl
  refine calls_cut hf hb hc hn ?_
  have hstart := St.pat_ok (Reads.of (σ := ⟨[], []⟩) hs1) self (fit0 ρ1 hJ1) (start_ok (ρ := ρ) (b := b) (w0 := w) hf hH hm (Kept.refl _ _) (fun k hk => hk) ha)
  refine wpL_mono ?_ _ _ (runP_ok r0 (hJ ρ1 hJ1).1 (hJ ρ1 hJ1).2 hv1 hstart)
  rintro e a1 w1 ⟨hd1, s, hs, rfl, hpc, b1, _, hrel1⟩
  rcases e0 s hs ρ1 hJ1 (saysL_of hv1) (andB_of hpc) with ⟨hx, hrs, rs, hret, hval⟩ | ⟨hx, hS, hI1⟩
  · rw [hx]
    simp only [XK.ex, Exit.then]
    have hr := hrel1 (ρ1.sub s.σ) (Reads.of ⟨fun _ _ => rfl, fun _ _ => rfl, rfl, rfl, rfl, rfl, rfl, rfl, rfl, rfl, rfl⟩) hrs
    exact ret_ok hf hret (.inr rfl) hd1 hr fun _ => ⟨by rw [hval], hr.below.below⟩
  · rw [hx]
    simp only [XK.ex, Exit.then]
    obtain ⟨ρ2, hs2, hy2, hx2⟩ := defs_left d1 n1 (ρ1.sub s.σ)
    obtain ⟨hI2, hμ2⟩ := sI _ _ hI1 hs2
    have hv2 := hx2 (allV_of (z1 ρ2 hI2 hy2))
    have hr2 := hrel1 ρ2 (Reads.of hs2) (by rw [hS]; exact fit ρ2 hI2)
    rw [hS] at hr2
    refine wp_loopAt (J := fun n a w' => a.defers = [] ∧ ∃ ρ b', I ρ ∧ μ ρ = n ∧ allV ρ V1 ∧ Rel ρ b' (· < w.heap.size) w w' S1 a.tmps) hl (n := μ ρ2) ⟨hd1, ρ2, b1, hI2, rfl, hv2, hr2⟩ ?_ c hc
    rintro m a w' ⟨hd, ρ3, b3, hI3, rfl, hv3, hr3⟩
    refine wpL_mono ?_ _ _ (runP_ok r1 (hI ρ3 hI3).1 (hI ρ3 hI3).2 hv3 hr3)
    rintro e a4 w4 ⟨hd4, t, ht, rfl, hpc4, b4, _, hrel4⟩
    rcases e1 t ht ρ3 hI3 (saysL_of hv3) (andB_of hpc4) with ⟨hx, hS, hI4, hμ⟩ | ⟨hx, hS, hI4⟩ | ⟨hx, hrs, rs, hret, hval⟩
    · rw [hx]
      simp only [XK.ex]
      obtain ⟨ρ5, hs5, hy5, hx5⟩ := defs_left d1 n1 (ρ3.sub t.σ)
      obtain ⟨hI5, hμ5⟩ := sI _ _ hI4 hs5
      have hv5 := hx5 (allV_of (z1 ρ5 hI5 hy5))
      have hr5 := hrel4 ρ5 (Reads.of hs5) (by rw [hS]; exact fit ρ5 hI5)
      rw [hS] at hr5
      exact ⟨μ ρ5, by rw [hμ5]; exact hμ, hd4.trans hd, ρ5, b4, hI5, rfl, hv5, hr5⟩
    · rw [hx]
      simp only [XK.ex, if_true, Exit.then]
      obtain ⟨ρ5, hs5, hy5, hx5⟩ := defs_left d2 n2 (ρ3.sub t.σ)
      have hI25 := sI2 _ _ hI4 hs5
      have hv5 := hx5 (allV_of (z2 ρ5 hI25 hy5))
      have hI5 := i21 _ hI25
      have hr5 := hrel4 ρ5 (Reads.of hs5) (by rw [hS]; exact fit ρ5 hI5)
      rw [hS] at hr5
      refine wpL_mono ?_ _ _ (runP_ok r2 (hI ρ5 hI5).1 (hI ρ5 hI5).2 hv5 hr5)
      rintro e a6 w6 ⟨hd6, u, hu, rfl, hpc6, b6, _, hrel6⟩
      obtain ⟨hx6, hrs6, rs, hret6, hval6⟩ := e2 u hu ρ5 hI25 (saysL_of hv5) (andB_of hpc6)
      have hr6 := hrel6 (ρ5.sub u.σ) (Reads.of ⟨fun _ _ => rfl, fun _ _ => rfl, rfl, rfl, rfl, rfl, rfl, rfl, rfl, rfl, rfl⟩) hrs6
      refine ret_ok hf hret6 ?_ (hd6.trans (hd4.trans hd)) hr6 fun _ => ⟨by rw [hval6], hr6.below.below⟩
      rcases hx6 with h | h <;> rw [h]
      · exact .inl rfl
      · exact .inr rfl
    · rw [hx]
      simp only [XK.ex, Exit.then]
      have hr4 := hrel4 (ρ3.sub t.σ) (Reads.of ⟨fun _ _ => rfl, fun _ _ => rfl, rfl, rfl, rfl, rfl, rfl, rfl, rfl, rfl, rfl⟩) hrs
      exact ret_ok hf hret (.inr rfl) (hd4.trans hd) hr4 fun _ => ⟨by rw [hval], hr4.below.below⟩
theorem piece_ret {P : Program} {et : TypeId} {cfg : Cfg} {f : FuncId} {fn : Func} (hf : P.funcs[f]? = some fn) (hb : fn.body.isSome = true)
    {args : List SV} {H : List (Nat × HEnt)} {nx : Nat} {L0 : List LS} {V0 W0 : List VC}
    (r0 : ran (runP P et cfg f (partsOf P f) (start P f args H nx)) L0 V0 = true) (d0 : defs V0 [] [] = W0) (n0 : W0.all VC.isNo = true)
    {V : Value} (J : Env → Prop)
    (hJ : ∀ ρ, J ρ → ρ.et = et ∧ HOK P ρ cfg.sum) (sJ : ∀ ρ ρ', J ρ → Same ρ ρ' [] [] → J ρ')
    (self : (start P f args H nx).pat ⟨[], []⟩ (start P f args H nx) = true) (fit0 : ∀ ρ, J ρ → ∀ r ∈ (start P f args H nx).rs, r.fit ρ)
    (z0 : ∀ ρ, J ρ → saysL ρ V0 → andV ρ W0)
    (e0 : ∀ s ∈ L0, ∀ ρ, J ρ → saysL ρ V0 → andB ρ s.pc → (s.x = .normal ∨ s.x = .ret) ∧ (∀ r ∈ s.S.rs, r.fit (ρ.sub s.σ)) ∧ ∃ rs, resultsOf P f s.S = some rs ∧ ∀ b, (oneOrTup rs).den (ρ.sub s.σ) b = V)
    {ρ : Env} (hρ : J ρ) (b : Bd) (w : World) (hH : HRel ρ b (· < w.heap.size) w H (· < nx)) (ha : SV.okL ρ (· < nx) args) (hm : Mem ρ (· < w.heap.size) w) :
    Calls P f (SV.denL ρ b args).toArray w fun e w' => e = .returned V ∧ Below w.heap.size w w' := by
  obtain ⟨ρ1, hs1, hy1, hx1⟩ := defs_left d0 n0 ρ
  have hJ1 := sJ ρ ρ1 hρ hs1
  have hv1 := hx1 (allV_of (z0 ρ1 hJ1 hy1))
  refine calls_whole hf hb ?_
  have hstart := St.pat_ok (Reads.of (σ := ⟨[], []⟩) hs1) self (fit0 ρ1 hJ1) (start_ok (ρ := ρ) (b := b) (w0 := w) hf hH hm (Kept.refl _ _) (fun k hk => hk) ha)
  refine wpL_mono ?_ _ _ (runP_ok r0 (hJ ρ1 hJ1).1 (hJ ρ1 hJ1).2 hv1 hstart)
  rintro e a1 w1 ⟨hd1, s, hs, rfl, hpc, b1, _, hrel1⟩
  obtain ⟨hx, hrs, rs, hret, hval⟩ := e0 s hs ρ1 hJ1 hy1 (andB_of hpc)
  have hr := hrel1 (ρ1.sub s.σ) (Reads.of ⟨fun _ _ => rfl, fun _ _ => rfl, rfl, rfl, rfl, rfl, rfl, rfl, rfl, rfl, rfl⟩) hrs
  refine ret_ok hf hret ?_ hd1 hr fun _ => ⟨by rw [hval], hr.below.below⟩
  rcases hx with h | h <;> rw [h]
  · exact .inl rfl
  · exact .inr rfl
end Go.Proofs.Ytdfpenjhpemokaa.Sx
