/-
  A verified symbolic executor, part 24: what the names of great terms stand for; a function from its start to its end.
-/
import Derived.Test.YtdfpenjhpemokaaSxW
set_option linter.unusedVariables false
set_option linter.unusedSimpArgs false
namespace Go.Proofs.Ytdfpenjhpemokaa.Sx
open Go.RowKit (Below)

def keepB (l : List Nat) (i : Nat) : Bool := l.any (Nat.beq i)
def look {α : Type} : List (Nat × List α) → Nat → List α
  | [], _ => []
  | (g, k) :: l, f => if Nat.beq g f then k else look l f
/-- How each function is gone into: what is kept behind each of its regions. -/
def cfgK (sum : Handler) (keeps : List (Nat × List (Nat × List Nat))) (bound big : Nat) : Cfg := ⟨sum, fun f => ⟨fun id => keepB (look (look keeps f) id), false, bound, big⟩⟩

/-! The names of great terms can be given what they stand for. -/
def base0 : Nat := 1000
/-- Are all of a term's names given, or among those that are defined? -/
def E.fine (D B : List Nat) : E → Bool
  | .v n => Nat.blt n base0 || D.any (Nat.beq n)
  | .bv n => Nat.blt n base0 || B.any (Nat.beq n)
  | .un _ a => a.fine D B
  | .bin _ a b => a.fine D B && b.fine D B
  | .ite d a b => d.fine D B && a.fine D B && b.fine D B
  | .ap _ a => a.fine D B
  | .cons a b => a.fine D B && b.fine D B
  | _ => true
structure Same (ρ ρ' : Env) (D B : List Nat) : Prop where
  iv : ∀ n, n < base0 ∨ n ∈ D → ρ'.iv n = ρ.iv n
  bv : ∀ n, n < base0 ∨ n ∈ B → ρ'.bv n = ρ.bv n
  fn : ρ'.fn = ρ.fn
  fb : ρ'.fb = ρ.fb
  et : ρ'.et = ρ.et
  ov : ρ'.ov = ρ.ov
  fl : ρ'.fl = ρ.fl
  mv : ρ'.mv = ρ.mv
  es : ρ'.es = ρ.es
  mn : ρ'.mn = ρ.mn
  ol : ρ'.ol = ρ.ol
theorem any_beq {n : Nat} {D : List Nat} (h : D.any (Nat.beq n) = true) : n ∈ D := by
  rw [List.any_eq_true] at h
  obtain ⟨x, hx, hn⟩ := h
  rw [Nat.eq_of_beq_eq_true hn]; exact hx
theorem blt_lt {n m : Nat} (h : Nat.blt n m = true) : n < m := by
  unfold Nat.blt at h
  exact Nat.le_of_ble_eq_true h
theorem E.fine_same {ρ ρ' : Env} {D B : List Nat} (h : Same ρ ρ' D B) : (e : E) → e.fine D B = true → e.i ρ' = e.i ρ ∧ e.b ρ' = e.b ρ ∧ e.l ρ' = e.l ρ := by
  intro e
  induction e with
  | v n =>
    intro hf
    simp only [E.fine, Bool.or_eq_true] at hf
    refine ⟨?_, rfl, rfl⟩
    simp only [E.i]
    exact h.iv n (hf.imp blt_lt any_beq)
  | bv n =>
    intro hf
    simp only [E.fine, Bool.or_eq_true] at hf
    refine ⟨rfl, ?_, rfl⟩
    simp only [E.b]
    exact h.bv n (hf.imp blt_lt any_beq)
  | c z => exact fun _ => ⟨rfl, rfl, rfl⟩
  | bc b => exact fun _ => ⟨rfl, rfl, rfl⟩
  | nil => exact fun _ => ⟨rfl, rfl, rfl⟩
  | un o a ih =>
    intro hf
    obtain ⟨h1, h2, h3⟩ := ih hf
    cases o <;> simp [E.i, E.b, E.l, h1, h2]
  | bin o a b iha ihb =>
    intro hf
    simp only [E.fine, Bool.and_eq_true] at hf
    obtain ⟨a1, a2, a3⟩ := iha hf.1
    obtain ⟨b1, b2, b3⟩ := ihb hf.2
    cases o <;> simp [E.i, E.b, E.l, a1, a2, a3, b1, b2, b3]
  | ite d a b ihd iha ihb =>
    intro hf
    simp only [E.fine, Bool.and_eq_true] at hf
    obtain ⟨d1, d2, d3⟩ := ihd hf.1.1
    obtain ⟨a1, a2, a3⟩ := iha hf.1.2
    obtain ⟨b1, b2, b3⟩ := ihb hf.2
    simp [E.i, E.b, E.l, d2, a1, a2, a3, b1, b2, b3]
  | ap k a ih =>
    intro hf
    obtain ⟨h1, h2, h3⟩ := ih hf
    simp [E.i, E.b, E.l, h3, h.fn, h.fb, h.fl]
  | cons a b iha ihb =>
    intro hf
    simp only [E.fine, Bool.and_eq_true] at hf
    obtain ⟨a1, a2, a3⟩ := iha hf.1
    obtain ⟨b1, b2, b3⟩ := ihb hf.2
    simp [E.i, E.b, E.l, a1, b3]
/-- A definition: of a number, of a boolean. -/
inductive Df where
  | n (h : Nat) (e : E) | b (h : Nat) (e : E) | no
def dfOf : VC → Df
  | ⟨[], .bin .eq (.v h) e⟩ => .n h e
  | ⟨[], .ite (.bv h) e (.un .not e')⟩ => if e.same e' then .b h e else .no
  | _ => .no
theorem dfOf_n {v : VC} {h : Nat} {e : E} (hd : dfOf v = .n h e) {ρ : Env} (he : ρ.iv h = e.i ρ) : v.holds ρ := by
  unfold dfOf at hd
  split at hd
  · cases hd
    intro _
    simp [E.b, E.i, he]
  · split at hd <;> cases hd
  · cases hd
theorem dfOf_b {v : VC} {h : Nat} {e : E} (hd : dfOf v = .b h e) {ρ : Env} (he : ρ.bv h = e.b ρ) : v.holds ρ := by
  unfold dfOf at hd
  split at hd
  · cases hd
  · split at hd
    · rename_i hs
      cases hd
      rw [← E.same_eq hs]
      intro _
      simp only [E.b, he]
      cases e.b ρ <;> rfl
    · cases hd
  · cases hd
/-- What a number was defined as. -/
def dfFind : List (Nat × E) → Nat → Option E
  | [], _ => none
  | (m, e) :: l, n => if Nat.beq m n then some e else dfFind l n
theorem dfFind_mem {l : List (Nat × E)} {n : Nat} {e : E} (h : dfFind l n = some e) : (n, e) ∈ l := by
  induction l with
  | nil => cases h
  | cons a l ih =>
    obtain ⟨m, y⟩ := a
    simp only [dfFind] at h
    split at h
    · rename_i hm; cases h; rw [Nat.eq_of_beq_eq_true hm]; exact .head _
    · exact .tail _ (ih h)
/-- The definitions in their order; what is none is left. -/
def defs : List VC → List (Nat × E) → List (Nat × E) → List VC
  | [], _, _ => []
  | v :: l, D, B => match dfOf v with
    | .n h e => match dfFind D h with
      | some e' => if e.same e' then defs l D B else v :: defs l D B
      | none => if Nat.ble base0 h && e.fine (D.map (·.1)) (B.map (·.1)) then defs l ((h, e) :: D) B else v :: defs l D B
    | .b h e => match dfFind B h with
      | some e' => if e.same e' then defs l D B else v :: defs l D B
      | none => if Nat.ble base0 h && e.fine (D.map (·.1)) (B.map (·.1)) then defs l D ((h, e) :: B) else v :: defs l D B
    | .no => v :: defs l D B
def Env.setI (ρ : Env) (h : Nat) (z : Int) : Env := { ρ with iv := fun n => if n = h then z else ρ.iv n }
def Env.setB (ρ : Env) (h : Nat) (z : Bool) : Env := { ρ with bv := fun n => if n = h then z else ρ.bv n }
theorem dfFind_none {l : List (Nat × E)} {n : Nat} (h : dfFind l n = none) : ¬ n ∈ l.map (·.1) := by
  induction l with
  | nil => simp
  | cons a l ih =>
    obtain ⟨m, y⟩ := a
    simp only [dfFind] at h
    split at h
    · cases h
    · rename_i hm
      simp only [List.map_cons, List.mem_cons, not_or]
      exact ⟨fun e => hm (by rw [e]; exact Nat.beq_refl m), ih h⟩
/-- What is defined stays so. -/
structure DefOk (ρ : Env) (D B : List (Nat × E)) : Prop where
  n : ∀ h e, (h, e) ∈ D → ρ.iv h = e.i ρ ∧ e.fine (D.map (·.1)) (B.map (·.1)) = true
  b : ∀ h e, (h, e) ∈ B → ρ.bv h = e.b ρ ∧ e.fine (D.map (·.1)) (B.map (·.1)) = true
theorem E.fine_mono {D D' B B' : List Nat} (hD : ∀ n, n ∈ D → n ∈ D') (hB : ∀ n, n ∈ B → n ∈ B') (e : E) : e.fine D B = true → e.fine D' B' = true := by
  have key : ∀ {L L' : List Nat} {n : Nat}, (∀ n, n ∈ L → n ∈ L') → L.any (Nat.beq n) = true → L'.any (Nat.beq n) = true := by
    intro L L' n h hn
    exact List.any_eq_true.2 ⟨n, h n (any_beq hn), Nat.beq_refl n⟩
  induction e with
  | v n => simp only [E.fine, Bool.or_eq_true]; exact fun h => h.imp_right (key hD)
  | bv n => simp only [E.fine, Bool.or_eq_true]; exact fun h => h.imp_right (key hB)
  | un o a ih => exact ih
  | bin o a b iha ihb => simp only [E.fine, Bool.and_eq_true]; exact fun h => ⟨iha h.1, ihb h.2⟩
  | ite d a b ihd iha ihb => simp only [E.fine, Bool.and_eq_true]; exact fun h => ⟨⟨ihd h.1.1, iha h.1.2⟩, ihb h.2⟩
  | ap k a ih => exact ih
  | cons a b iha ihb => simp only [E.fine, Bool.and_eq_true]; exact fun h => ⟨iha h.1, ihb h.2⟩
  | _ => exact id
theorem defs_ok : ∀ (l : List VC) (D B : List (Nat × E)) (ρ : Env), DefOk ρ D B → ∃ ρ', Same ρ ρ' (D.map (·.1)) (B.map (·.1)) ∧ (∀ v ∈ l, v.holds ρ' ∨ v ∈ defs l D B) := by
  intro l
  induction l with
  | nil => intro D B ρ _; exact ⟨ρ, ⟨fun _ _ => rfl, fun _ _ => rfl, rfl, rfl, rfl, rfl, rfl, rfl, rfl, rfl, rfl⟩, fun v h => by cases h⟩
  | cons v l ih =>
    intro D B ρ hd
    -- it is left
    have left : ∃ ρ', Same ρ ρ' (D.map (·.1)) (B.map (·.1)) ∧ (∀ u ∈ v :: l, u.holds ρ' ∨ u ∈ v :: defs l D B) := by
      obtain ⟨ρ', h1, h2⟩ := ih D B ρ hd
      refine ⟨ρ', h1, fun u hu => ?_⟩
      cases hu with
      | head => exact .inr (.head _)
      | tail _ hu => exact (h2 u hu).imp_right (.tail _)
    -- it holds
    have holds : (∀ ρ', Same ρ ρ' (D.map (·.1)) (B.map (·.1)) → v.holds ρ') → ∃ ρ', Same ρ ρ' (D.map (·.1)) (B.map (·.1)) ∧ (∀ u ∈ v :: l, u.holds ρ' ∨ u ∈ defs l D B) := by
      intro hv
      obtain ⟨ρ', h1, h2⟩ := ih D B ρ hd
      refine ⟨ρ', h1, fun u hu => ?_⟩
      cases hu with
      | head => exact .inl (hv ρ' h1)
      | tail _ hu => exact h2 u hu
    simp only [defs]
    split
    · rename_i h e hdf
      split
      · rename_i e' hf
        split
        · rename_i hs
          have hm := hd.n h e' (dfFind_mem hf)
          refine holds fun ρ' hS => dfOf_n hdf ?_
          rw [E.same_eq hs, hS.iv h (.inr (List.mem_map.2 ⟨_, dfFind_mem hf, rfl⟩)), hm.1]
          exact (E.fine_same hS e' hm.2).1.symm
        · exact left
      · rename_i hf
        split
        · rename_i hb
          simp only [Bool.and_eq_true] at hb
          have hge : base0 ≤ h := Nat.le_of_ble_eq_true hb.1
          have hnm := dfFind_none hf
          have hs0 : Same ρ (ρ.setI h (e.i ρ)) (D.map (·.1)) (B.map (·.1)) := ⟨fun n hn => by
            show (if n = h then _ else _) = _
            rw [if_neg]
            rintro rfl
            rcases hn with hn | hn
            · omega
            · exact hnm hn, fun _ _ => rfl, rfl, rfl, rfl, rfl, rfl, rfl, rfl, rfl, rfl⟩
          have hnew : DefOk (ρ.setI h (e.i ρ)) ((h, e) :: D) B := by
            refine ⟨fun k x hk => ?_, fun k x hk => ?_⟩
            · cases hk with
              | head => exact ⟨by rw [(E.fine_same hs0 e hb.2).1]; simp [Env.setI], E.fine_mono (fun n hn => .tail _ hn) (fun n hn => hn) e hb.2⟩
              | tail _ hk =>
                obtain ⟨k1, k2⟩ := hd.n k x hk
                refine ⟨?_, E.fine_mono (fun n hn => .tail _ hn) (fun n hn => hn) x k2⟩
                rw [(E.fine_same hs0 x k2).1, hs0.iv k (.inr (List.mem_map.2 ⟨_, hk, rfl⟩)), k1]
            · obtain ⟨k1, k2⟩ := hd.b k x hk
              refine ⟨?_, E.fine_mono (fun n hn => .tail _ hn) (fun n hn => hn) x k2⟩
              rw [(E.fine_same hs0 x k2).2.1, hs0.bv k (.inr (List.mem_map.2 ⟨_, hk, rfl⟩)), k1]
          obtain ⟨ρ', h1, h2⟩ := ih ((h, e) :: D) B (ρ.setI h (e.i ρ)) hnew
          have hS : Same ρ ρ' (D.map (·.1)) (B.map (·.1)) := ⟨fun n hn => (h1.iv n (hn.imp_right (.tail _))).trans (hs0.iv n hn), fun n hn => (h1.bv n hn).trans (hs0.bv n hn), h1.fn.trans hs0.fn, h1.fb.trans hs0.fb, h1.et.trans hs0.et, h1.ov.trans hs0.ov, h1.fl.trans hs0.fl, h1.mv.trans hs0.mv, h1.es.trans hs0.es, h1.mn.trans hs0.mn, h1.ol.trans hs0.ol⟩
          refine ⟨ρ', hS, fun u hu => ?_⟩
          cases hu with
          | head =>
            refine .inl (dfOf_n hdf ?_)
            have e1 := h1.iv h (.inr (.head _))
            have e2 : (ρ.setI h (e.i ρ)).iv h = e.i ρ := by simp [Env.setI]
            rw [e1, e2]
            exact (E.fine_same hS e hb.2).1.symm
          | tail _ hu => exact h2 u hu
        · exact left
    · rename_i h e hdf
      split
      · rename_i e' hf
        split
        · rename_i hs
          have hm := hd.b h e' (dfFind_mem hf)
          refine holds fun ρ' hS => dfOf_b hdf ?_
          rw [E.same_eq hs, hS.bv h (.inr (List.mem_map.2 ⟨_, dfFind_mem hf, rfl⟩)), hm.1]
          exact (E.fine_same hS e' hm.2).2.1.symm
        · exact left
      · rename_i hf
        split
        · rename_i hb
          simp only [Bool.and_eq_true] at hb
          have hge : base0 ≤ h := Nat.le_of_ble_eq_true hb.1
          have hnm := dfFind_none hf
          have hs0 : Same ρ (ρ.setB h (e.b ρ)) (D.map (·.1)) (B.map (·.1)) := ⟨fun _ _ => rfl, fun n hn => by
            show (if n = h then _ else _) = _
            rw [if_neg]
            rintro rfl
            rcases hn with hn | hn
            · omega
            · exact hnm hn, rfl, rfl, rfl, rfl, rfl, rfl, rfl, rfl, rfl⟩
          have hnew : DefOk (ρ.setB h (e.b ρ)) D ((h, e) :: B) := by
            refine ⟨fun k x hk => ?_, fun k x hk => ?_⟩
            · obtain ⟨k1, k2⟩ := hd.n k x hk
              refine ⟨?_, E.fine_mono (fun n hn => hn) (fun n hn => .tail _ hn) x k2⟩
              rw [(E.fine_same hs0 x k2).1, hs0.iv k (.inr (List.mem_map.2 ⟨_, hk, rfl⟩)), k1]
            · cases hk with
              | head => exact ⟨by rw [(E.fine_same hs0 e hb.2).2.1]; simp [Env.setB], E.fine_mono (fun n hn => hn) (fun n hn => .tail _ hn) e hb.2⟩
              | tail _ hk =>
                obtain ⟨k1, k2⟩ := hd.b k x hk
                refine ⟨?_, E.fine_mono (fun n hn => hn) (fun n hn => .tail _ hn) x k2⟩
                rw [(E.fine_same hs0 x k2).2.1, hs0.bv k (.inr (List.mem_map.2 ⟨_, hk, rfl⟩)), k1]
          obtain ⟨ρ', h1, h2⟩ := ih D ((h, e) :: B) (ρ.setB h (e.b ρ)) hnew
          have hS : Same ρ ρ' (D.map (·.1)) (B.map (·.1)) := ⟨fun n hn => (h1.iv n hn).trans (hs0.iv n hn), fun n hn => (h1.bv n (hn.imp_right (.tail _))).trans (hs0.bv n hn), h1.fn.trans hs0.fn, h1.fb.trans hs0.fb, h1.et.trans hs0.et, h1.ov.trans hs0.ov, h1.fl.trans hs0.fl, h1.mv.trans hs0.mv, h1.es.trans hs0.es, h1.mn.trans hs0.mn, h1.ol.trans hs0.ol⟩
          refine ⟨ρ', hS, fun u hu => ?_⟩
          cases hu with
          | head =>
            refine .inl (dfOf_b hdf ?_)
            have e1 := h1.bv h (.inr (.head _))
            have e2 : (ρ.setB h (e.b ρ)).bv h = e.b ρ := by simp [Env.setB]
            rw [e1, e2]
            exact (E.fine_same hS e hb.2).2.1.symm
          | tail _ hu => exact h2 u hu
        · exact left
    · exact left
/-- The names can be given what they stand for. -/
theorem defs_env {l : List VC} (h : defs l [] [] = []) (ρ : Env) : ∃ ρ', Same ρ ρ' [] [] ∧ allV ρ' l := by
  obtain ⟨ρ', h1, h2⟩ := defs_ok l [] [] ρ ⟨fun _ _ h => (List.not_mem_nil h).elim, fun _ _ h => (List.not_mem_nil h).elim⟩
  refine ⟨ρ', h1, fun v hv => ?_⟩
  rcases h2 v hv with h3 | h3
  · exact h3
  · rw [h] at h3; cases h3

/-- A function from its start to its end. -/
theorem run_fn {P : Program} {et : TypeId} {cfg : Cfg} {ρ : Env} (he : ρ.et = et) (hs : HOK P ρ cfg.sum) {d f : Nat} {args : List SV} {H : List (Nat × HEnt)} {nx : Nat} {c : CR} {vs : List VC}
    (h : callN P et cfg (runDraw P et) d [] f args H nx = some (.leaf c, vs)) (hv : allV ρ vs) (b : Bd) (w : World) (hH : HRel ρ b (· < w.heap.size) w H (· < nx)) (ha : SV.okL ρ (· < nx) args) (hm : Mem ρ (· < w.heap.size) w) :
    Calls P f (SV.denL ρ b args).toArray w fun e w' => (∃ b', e = .returned (c.v.den ρ b') ∧ Agree b b' (· < nx) ∧ HRel ρ b' (· < w.heap.size) w' c.heap (· < c.next) ∧ c.v.ok ρ (· < c.next)) ∧ Below w.heap.size w w' := by
  refine (callN_ok he hs (fun h hh => runDraw_ok he h hh) d [] f args H nx _ _ h (allB_nil ρ) hv b (· < w.heap.size) w w hH hm (Kept.refl _ _) (fun k hk => hk) ha).mono ?_
  rintro e w' ⟨b', h1, h2, h3, h4, h5, h6, h7⟩
  exact ⟨⟨b', h1, h2, h3, h4⟩, h5.below⟩
/-- One that answers true. -/
theorem run_true {P : Program} {et : TypeId} {cfg : Cfg} {ρ : Env} (he : ρ.et = et) (hs : HOK P ρ cfg.sum) {d f : Nat} {args : List SV} {H : List (Nat × HEnt)} {nx : Nat} {c : CR} {vs : List VC}
    (h : callN P et cfg (runDraw P et) d [] f args H nx = some (.leaf c, vs)) (hv : allV ρ vs) {e : E} (hc : c.v = .bool e) (hb : e.b ρ = true) (b : Bd) (w : World) (hH : HRel ρ b (· < w.heap.size) w H (· < nx)) (ha : SV.okL ρ (· < nx) args) (hm : Mem ρ (· < w.heap.size) w) :
    Calls P f (SV.denL ρ b args).toArray w fun e w' => e = .returned (.bool true) ∧ Below w.heap.size w w' := by
  refine (run_fn he hs h hv b w hH ha hm).mono ?_
  rintro x w' ⟨⟨b', h1, _⟩, h2⟩
  refine ⟨?_, h2⟩
  rw [h1, hc]
  simp only [SV.den, hb]

/-! A run held against a list of definitions that was written down ahead. -/
def VC.same (v u : VC) : Bool := sameEs v.pc u.pc && v.e.same u.e
theorem VC.same_eq {v u : VC} (h : v.same u = true) : v = u := by
  unfold VC.same at h
  rw [Bool.and_eq_true] at h
  have h1 := sameEs_eq h.1
  have h2 := E.same_eq h.2
  cases v; cases u; simp_all
/-- Is it the boolean e, with no more to be shown than l? -/
def chk (r : Option (T CR × List VC)) (e : E) (l : List VC) : Bool := match r with
  | some (.leaf c, vs) => (match c.v with
    | .bool x => x.same e
    | _ => false) && vs.all fun v => l.any fun u => u.same v
  | _ => false
theorem chk_ok {r : Option (T CR × List VC)} {e : E} {l : List VC} (h : chk r e l = true) : ∃ c vs, r = some (.leaf c, vs) ∧ c.v = .bool e ∧ ∀ ρ, allV ρ l → allV ρ vs := by
  unfold chk at h
  split at h
  · rename_i c vs
    rw [Bool.and_eq_true] at h
    refine ⟨c, vs, rfl, ?_, fun ρ hl v hv => ?_⟩
    · have h1 := h.1
      split at h1
      · rename_i x hx
        rw [hx, E.same_eq h1]
      · cases h1
    · have h2 := List.all_eq_true.1 h.2 v hv
      rw [List.any_eq_true] at h2
      obtain ⟨u, hu, hs⟩ := h2
      rw [← VC.same_eq hs]
      exact hl u hu
  · cases h
/-- What a definition says. -/
def VC.says (ρ : Env) (v : VC) : Prop := match dfOf v with
  | .n h e => ρ.iv h = e.i ρ
  | .b h e => ρ.bv h = e.b ρ
  | .no => True
theorem says_of {ρ : Env} {v : VC} (h : v.holds ρ) : v.says ρ := by
  unfold VC.says
  split
  · rename_i n e hd
    unfold dfOf at hd
    split at hd
    · cases hd
      have := VC.holds_nil h
      simp only [E.b, decide_eq_true_eq] at this
      exact this
    · split at hd <;> cases hd
    · cases hd
  · rename_i n e hd
    unfold dfOf at hd
    split at hd
    · cases hd
    · split at hd
      · rename_i hs
        cases hd
        have := VC.holds_nil h
        rw [← E.same_eq hs] at this
        simp only [E.b] at this
        show ρ.bv _ = _
        cases h1 : ρ.bv n <;> simp_all
      · cases hd
    · cases hd
  · trivial
def saysL (ρ : Env) : List VC → Prop
  | [] => True
  | v :: l => v.says ρ ∧ saysL ρ l
theorem saysL_of {ρ : Env} {l : List VC} (h : allV ρ l) : saysL ρ l := by
  induction l with
  | nil => trivial
  | cons v l ih => exact ⟨says_of (h v (.head _)), ih (fun u hu => h u (.tail _ hu))⟩

/-! A contract for one call as it stands in a run. -/
def sameH : List (Nat × HEnt) → List (Nat × HEnt) → Bool
  | [], [] => true
  | (n, x) :: l, (m, y) :: k => Nat.beq n m && sameEs x.g y.g && SV.sameL x.blk.cells y.blk.cells && Nat.beq x.blk.elem y.blk.elem && decide (x.blk.kind = y.blk.kind) && sameH l k
  | _, _ => false
theorem sameH_eq : ∀ {l k : List (Nat × HEnt)}, sameH l k = true → l = k := by
  intro l
  induction l with
  | nil => intro k h; cases k <;> simp [sameH] at h; rfl
  | cons a l ih =>
    intro k h
    obtain ⟨n, g, cs, t, kd⟩ := a
    cases k with
    | nil => simp [sameH] at h
    | cons c k =>
      obtain ⟨m, g', cs', t', kd'⟩ := c
      simp only [sameH, Bool.and_eq_true, decide_eq_true_eq] at h
      obtain ⟨⟨⟨⟨⟨h1, h2⟩, h3⟩, h4⟩, h5⟩, h6⟩ := h
      rw [Nat.eq_of_beq_eq_true h1, sameEs_eq h2, SV.sameL_eq _ _ h3, Nat.eq_of_beq_eq_true h4, h5, ih h6]
/-- This function, with these arguments, at these blocks: this value. -/
def oneSum (k : Nat) (args : List SV) (H : List (Nat × HEnt)) (v : SV) : Handler := fun _ f as hp nx =>
  if Nat.beq f k && SV.sameL as args && sameH hp H then some (.leaf ⟨v, H, nx⟩, []) else none
def farOnly (nx : Nat) (args : List SV) (H : List (Nat × HEnt)) : Bool := H.all (fun x => decide (x.2.blk.kind = .far) && Nat.blt x.1 nx && (SV.namesL x.2.blk.cells).all fun m => Nat.blt m nx) && (SV.namesL args).all fun m => Nat.blt m nx
theorem oneSum_ok {P : Program} {ρ : Env} {k : Nat} {args : List SV} {H : List (Nat × HEnt)} {v : SV} (n0 : Nat) (hf : farOnly n0 args H = true) (hv : ∀ N, v.ok ρ N)
    (h : ∀ b w, HRel ρ b (· < w.heap.size) w H (· < n0) → Mem ρ (· < w.heap.size) w → SV.okL ρ (· < n0) args → Calls P k (SV.denL ρ b args).toArray w fun e w' => e = .returned (v.den ρ b) ∧ Below w.heap.size w w') : HOK P ρ (oneSum k args H v) := by
  intro pc f as hp nx r vs hs hpc hvs b base w0 w hH hmem hbel hbase hargs
  unfold oneSum at hs
  split at hs
  · rename_i hc
    cases hs
    simp only [Bool.and_eq_true] at hc
    obtain ⟨⟨h1, h2⟩, h3⟩ := hc
    have e1 := Nat.eq_of_beq_eq_true h1
    have e2 := SV.sameL_eq _ _ h2
    have e3 := sameH_eq h3
    subst e1 e2 e3
    unfold farOnly at hf
    rw [Bool.and_eq_true] at hf
    have hall : ∀ n e, find hp n = some e → e.blk.kind = .far ∧ n < n0 ∧ ∀ m ∈ SV.namesL e.blk.cells, m < n0 := by
      intro n e hfe
      have := List.all_eq_true.1 hf.1 _ (find_mem hfe)
      simp only [Bool.and_eq_true, decide_eq_true_eq, List.all_eq_true] at this
      exact ⟨this.1.1, blt_lt this.1.2, fun m hm => blt_lt (this.2 m hm)⟩
    have hfar : HRel ρ b (· < w.heap.size) w hp (· < n0) := by
      refine ⟨fun n e hfe hg => ?_, fun n m e q hfe hfq hg hgq ho => ?_⟩
      · obtain ⟨m1, m2, m3⟩ := hH.mem n e hfe hg
        obtain ⟨hk, hn, hc⟩ := hall n e hfe
        refine ⟨hn, ?_, SV.okL_names _ m3 hc⟩
        unfold Blk.ok at m2 ⊢
        rw [hk] at m2 ⊢
        exact ⟨hbase _ m2.1, m2.2⟩
      · exfalso
        unfold Blk.own at ho
        rw [(hall n e hfe).1] at ho
        cases ho
    have hargs' : SV.okL ρ (· < n0) as := SV.okL_names _ hargs fun m hm => blt_lt (List.all_eq_true.1 hf.2 m hm)
    refine (h b w hfar ((hmem.kept hbel).mono hbase) hargs').mono ?_
    rintro e w' ⟨h5, h6⟩
    exact ⟨b, h5, Agree.refl b _, hH.mono (Agree.refl b _) (fun _ h => h) (fun k hk => h6.block k hk) hbase, hv _, hbel.trans ((Kept.of h6).mono hbase), fun k hk => Nat.lt_of_lt_of_le (hbase k hk) h6.size, Nat.le_refl _⟩
  · cases hs
/-- Is it this value, with nothing to be shown? -/
def chkV (r : Option (T CR × List VC)) (v : SV) : Bool := match r with
  | some (.leaf c, []) => c.v.same v
  | _ => false
theorem chkV_ok {r : Option (T CR × List VC)} {v : SV} (h : chkV r v = true) : ∃ c, r = some (.leaf c, []) ∧ c.v = v := by
  unfold chkV at h
  split at h
  · exact ⟨_, rfl, SV.same_eq _ _ h⟩
  · cases h
end Go.Proofs.Ytdfpenjhpemokaa.Sx
