/-
  A verified symbolic executor, part 10: append; operations that make blocks, from their text.
-/
import Derived.Test.YtdfpenjhpemokaaSxI
set_option linter.unusedVariables false
set_option linter.unusedSimpArgs false
namespace Go.Proofs.Ytdfpenjhpemokaa.Sx
open Go.RowKit (Below)

/-- A new name, whatever it stands for. -/
theorem HRel.add {ρ : Env} {b : Bd} {base : Nat → Prop} {w w' : World} {H : List (Nat × HEnt)} {nx : Nat} (h : HRel ρ b base w H (· < nx)) {B : Blk} (β o κ : Nat) (hB : B.ok ρ (b.put nx β o κ) base w' nx) (hk : SV.okL ρ (· < nx) B.cells)
    (hkeep : ∀ m e, find H m = some e → allB ρ e.g → w'.heap[b.β m]? = w.heap[b.β m]? ∧ (e.blk.own = true → b.β m ≠ β)) :
    HRel ρ (b.put nx β o κ) base w' (push H nx ⟨[], B⟩) (· < nx + 1) := by
  have hn : ¬ (nx < nx) := Nat.lt_irrefl _
  have ha : Agree b (b.put nx β o κ) (· < nx) := Bd.put_agree b _ _ _ hn
  have hput : (b.put nx β o κ).β nx = β := by simp [Bd.put]
  have hm : ∀ n e, find H n = some e → allB ρ e.g → n < nx + 1 ∧ e.blk.ok ρ (b.put nx β o κ) base w' n ∧ SV.okL ρ (· < nx + 1) e.blk.cells := by
    intro n e hf hg
    obtain ⟨h1, h2, h3⟩ := h.mem n e hf hg
    exact ⟨Nat.lt_succ_of_lt h1, h2.keep h1 h3 ha (hkeep n e hf hg).1, SV.okL_mono (fun n h => Nat.lt_succ_of_lt h) _ h3⟩
  constructor
  · intro n e hf hg
    rw [find_push] at hf
    split at hf
    · rename_i hnn
      subst hnn
      cases hf
      exact ⟨Nat.lt_succ_self _, hB, SV.okL_mono (fun n h => Nat.lt_succ_of_lt h) _ hk⟩
    · exact hm n e hf hg
  · intro n m e k hf hkf hg hgk ho hok heq
    rw [find_push] at hf hkf
    split at hf
    · rename_i hnn
      subst hnn
      split at hkf
      · assumption
      · exfalso
        have h1 := (h.mem m k hkf hgk).1
        rw [hput, (ha m h1).1] at heq
        exact (hkeep m k hkf hgk).2 hok heq.symm
    · split at hkf
      · rename_i hmm
        subst hmm
        exfalso
        have h1 := (h.mem n e hf hg).1
        rw [hput, (ha n h1).1] at heq
        exact (hkeep n e hf hg).2 ho heq
      · have h1 := (h.mem n e hf hg).1
        have h2 := (h.mem m k hkf hgk).1
        rw [(ha n h1).1, (ha m h2).1] at heq
        exact h.inj n m e k hf hkf hg hgk ho hok heq
theorem HRel.del {ρ : Env} {b : Bd} {base : Nat → Prop} {w : World} {H : List (Nat × HEnt)} {N : Nat → Prop} (h : HRel ρ b base w H N) (n : Nat) : HRel ρ b base w (del H n) N where
  mem := fun m e hf hg => by
    rw [find_del] at hf
    split at hf
    · cases hf
    · exact h.mem m e hf hg
  inj := fun m p e k hf hk hg hgk ho hok heq => by
    rw [find_del] at hf hk
    split at hf
    · cases hf
    · split at hk
      · cases hk
      · exact h.inj m p e k hf hk hg hgk ho hok heq
theorem tmps_put {ρ : Env} {b b' : Bd} {tm : Array Value} {T : List (Nat × Ent)} {N M : Nat → Prop} (h : ∀ i e, find T i = some e → e.at ρ b N tm i) (ha : Agree b b' N) (hNM : ∀ n, N n → M n) : ∀ i e, find T i = some e → e.at ρ b' M tm i := by
  intro i e hf
  obtain ⟨h1, h2⟩ := h i e hf
  refine ⟨fun hg => ?_, h2⟩
  obtain ⟨h3, h4⟩ := h1 hg
  exact ⟨by rw [SV.den_agree ha _ h4]; exact h3, SV.ok_mono hNM _ h4⟩

/-- The cells of a slice's elements. -/
def sElems (A : List E) (S : St) (size : Nat) : SV → Option (List SV)
  | .sl n off len _ => match blkOf A S n with
    | some B => if off + len * size ≤ B.cells.length then some ((B.cells.drop off).take (len * size)) else none
    | none => none
  | _ => none
theorem sElems_ok {ρ : Env} {b : Bd} {base : Nat → Prop} {w0 w : World} {S : St} {tm : Array Value} {A : List E} (h : Rel ρ b base w0 w S tm) (hA : allB ρ A) {size : Nat} {x : SV} {cs : List SV} (hx : sElems A S size x = some cs) :
    ∃ a n c, x.den ρ b = .slice (some a) n c ∧ cs.length = n * size ∧ SV.okL ρ (· < S.next) cs ∧ ∀ j u, (SV.denL ρ b cs)[j]? = some u → w.cell? (a.add j) = some u := by
  unfold sElems at hx
  split at hx
  · rename_i n off len cap
    split at hx
    · rename_i B hB
      split at hx
      · rename_i hl
        cases hx
        obtain ⟨m1, m2, m3⟩ := blkOf_ok h hA hB
        refine ⟨⟨b.β n, b.o n + off, none⟩, len, cap.getD (b.κ n), rfl, by simp; omega, okL_take m3 _ _, fun j u hj => ?_⟩
        rw [denL_get] at hj
        cases hg : ((B.cells.drop off).take (len * size))[j]? with
        | none => rw [hg] at hj; cases hj
        | some y =>
          rw [hg] at hj
          cases hj
          rw [add_lit]
          refine m2.cell ?_
          rw [List.getElem?_take] at hg
          split at hg
          · simpa using hg
          · cases hg
      · cases hx
    · cases hx
  · cases hx

def lenOfS : SV → Nat
  | .sl _ _ m _ => m
  | _ => 0
/-- append(s, x...): the new state, the new slice. -/
def sAppend (P : Program) (A : List E) (S : St) (t t' : TypeId) (s x : SV) : Option (SV × St) :=
  if t = t' ∧ A.isEmpty = true then
    match P.underlying t with
    | some (.slice e) =>
      match P.info? e with
      | some i =>
        match sElems A S i.size x, i.zero with
        | some news, some z =>
          let m := lenOfS x
          if 0 < i.size ∧ z.cells.size = i.size ∧ news.all SV.isOne = true ∧ 0 < m then
            match s with
            | .nils => if m ≤ 1000000 ∧ m * i.bytes ≤ 100000000 then some (.sl S.next 0 m none, { S with heap := push S.heap S.next ⟨[], ⟨news, e, .grow i.size⟩⟩, next := S.next + 1 }) else none
            | .sl n 0 len none =>
              match find S.heap n with
              | some h =>
                if h.g.isEmpty = true ∧ h.blk.kind = .grow i.size ∧ h.blk.elem = e ∧ h.blk.cells.length = len * i.size ∧ len + m ≤ 1000000 ∧ (len + m) * i.bytes ≤ 100000000
                then some (.sl S.next 0 (len + m) none, { S with heap := push (del S.heap n) S.next ⟨[], ⟨h.blk.cells ++ news, e, .grow i.size⟩⟩, next := S.next + 1 }) else none
              | none => none
            | _ => none
          else none
        | _, _ => none
      | none => none
    | _ => none
  else none
theorem sAppend_ok {P : Program} {A : List E} {S S' : St} {t t' ty : TypeId} {s x v : SV} (hs : sAppend P A S t t' s x = some (v, S')) {ρ : Env} {b : Bd} {base : Nat → Prop} {w0 w : World} {tm : Array Value} (h : Rel ρ b base w0 w S tm) (hA : allB ρ A) (hsok : s.ok ρ (· < S.next)) :
    ∃ b' w', (Builtin.append_ #[t, t'] ty #[s.den ρ b, x.den ρ b]).run P w = .ok (v.den ρ b') w' ∧ Agree b b' (· < S.next) ∧ Rel ρ b' base w0 w' S' tm ∧ v.ok ρ (· < S'.next) ∧ S.next ≤ S'.next := by
  unfold sAppend at hs
  split at hs
  · rename_i hc0
    obtain ⟨rfl, hAe⟩ := hc0
    split at hs
    · rename_i e hu
      split at hs
      · rename_i i hi
        split at hs
        · rename_i news z hn hz
          dsimp only at hs
          obtain ⟨a, m, c, hx, hlen, hnok, hcell⟩ := sElems_ok h hA hn
          have hm : lenOfS x = m := by
            cases x <;> simp [SV.den] at hx <;> first | exact hx.2.1 | (exfalso; simp [sElems] at hn; done) | (split at hx <;> cases hx)
          rw [hm] at hs
          split at hs
          · rename_i hc
            obtain ⟨c1, c2, c3, c4⟩ := hc
            have hlenD : (SV.denL ρ b news).length = m * i.size := by rw [denL_length]; exact hlen
            split at hs
            · split at hs
              · rename_i hb
                cases hs
                have hr := run_append_nil (P := P) w t ty e i z hu hi hz a m c (SV.denL ρ b news) hlenD hcell c4 (by omega) (by omega)
                have hge := grownCap_ge w m 0 e
                refine ⟨b.put S.next w.heap.size 0 (grownCap w m 0 e), w.drew.alloc (.cells ((SV.denL ρ b news).toArray ++ Builtin.zeroCells z.cells (grownCap w m 0 e - m)) e), ?_, Bd.put_agree b _ _ _ (Nat.lt_irrefl _), ?_, Nat.lt_succ_self _, Nat.le_succ _⟩
                · simp only [SV.den, hx]
                  rw [hr]
                  simp [SV.den, Bd.put]
                · refine ⟨h.heap.add _ _ _ ?_ hnok ?_, tmps_put h.tmps (Bd.put_agree b _ _ _ (Nat.lt_irrefl _)) (fun n h => Nat.lt_succ_of_lt h), (h.below.drew).alloc h.base _, fun k hk => by rw [World.size_alloc]; exact Nat.lt_succ_of_lt (h.base k hk), h.nt, h.kept⟩
                  · refine ⟨by simp [Bd.put], by simp only [Bd.put, if_true]; exact fun hc => Nat.lt_irrefl _ (h.base _ hc), _, by simp only [Bd.put, if_true]; exact heap_alloc_new w.drew _, ?_, ?_, ?_⟩
                    · simp only [Array.size_append, List.size_toArray, size_zeroCells, hlenD, c2, Bd.put, if_true]
                      rw [← Nat.add_mul]; congr 1; omega
                    · simp only [Array.size_append, List.size_toArray, denL_length]; omega
                    · intro j u hj
                      have hag : Agree b (b.put S.next w.heap.size 0 (grownCap w m 0 e)) (· < S.next) := Bd.put_agree b _ _ _ (Nat.lt_irrefl _)
                      rw [SV.den_agree hag u (okL_get hnok hj)]
                      have hl : j < news.length := (List.getElem?_eq_some_iff.1 hj).1
                      rw [Array.getElem?_append_left (by simp [denL_length]; exact hl)]
                      simp [denL_get, hj]
                  · intro n e' hf hg
                    have hlt := (h.heap.mem n e' hf hg).2.1.lt h.base
                    exact ⟨heap_alloc_old w.drew _ _ hlt, fun _ => Nat.ne_of_lt hlt⟩
              · cases hs
            · rename_i n len
              split at hs
              · rename_i eh hf
                split at hs
                · rename_i hb
                  obtain ⟨b1, b2, b3, b4, b5, b6⟩ := hb
                  cases hs
                  have hg : allB ρ eh.g := by have : eh.g = [] := by simpa using b1
                                              rw [this]; intro _ h; cases h
                  obtain ⟨m1, m2, m3⟩ := h.heap.mem n eh hf hg
                  have hown : eh.blk.own = true := by simp [Blk.own, b2]
                  have hbs := m2.base hown
                  have hm2 := m2
                  unfold Blk.ok at m2
                  rw [b2] at m2
                  dsimp only at m2
                  obtain ⟨a1, a2, arr, a3, a4, a5, a6⟩ := m2
                  rw [b3] at a3
                  have hag : ∀ β κ, Agree b (b.put S.next β 0 κ) (· < S.next) := fun β κ => Bd.put_agree b _ _ _ (Nat.lt_irrefl _)
                  have hallok : SV.okL ρ (· < S.next) (eh.blk.cells ++ news) := (okL_all _ _ _).2 fun y hy => by
                    rcases List.mem_append.1 hy with hy | hy
                    · exact (okL_all _ _ _).1 m3 y hy
                    · exact (okL_all _ _ _).1 hnok y hy
                  have hsd : (SV.sl n 0 len none).den ρ b = .slice (some ⟨b.β n, 0, none⟩) len (b.κ n) := by simp [SV.den, hbs.2.2]
                  have holds : ∀ (j : Nat) (u : Value), (SV.denL ρ b eh.blk.cells)[j]? = some u → arr[j]? = some u := by
                    intro j u hj
                    rw [denL_get] at hj
                    cases hq : eh.blk.cells[j]? with
                    | none => rw [hq] at hj; cases hj
                    | some y => rw [hq] at hj; cases hj; exact a6 j y hq
                  by_cases hroom : len + m ≤ b.κ n
                  · have hfit : len * i.size + (SV.denL ρ b news).length ≤ arr.size := by rw [hlenD, a4, ← Nat.add_mul]; exact Nat.mul_le_mul_right _ hroom
                    have hone : ∀ u ∈ SV.denL ρ b news, u.oneCell' = true := by
                      intro u hu
                      rw [denL_map, List.mem_map] at hu
                      obtain ⟨y, hy, rfl⟩ := hu
                      exact (SV.isOne_den (List.all_eq_true.1 c3 y hy) ρ b).1
                    have hr := run_append_room (P := P) w t ty e i hu hi (b.β n) len (b.κ n) arr a3 a m c (SV.denL ρ b news) hlenD hcell hone hroom hfit
                    refine ⟨b.put S.next (b.β n) 0 (b.κ n), w.setRow (b.β n) (arr.toList.take (len * i.size) ++ SV.denL ρ b news ++ arr.toList.drop (len * i.size + (SV.denL ρ b news).length)).toArray, ?_, hag _ _, ?_, Nat.lt_succ_self _, Nat.le_succ _⟩
                    · rw [hsd, hx, hr]
                      simp [SV.den, Bd.put]
                    · refine ⟨(h.heap.del n).add _ _ _ ?_ hallok ?_, tmps_put h.tmps (hag _ _) (fun n h => Nat.lt_succ_of_lt h), ?_, by have := h.base; simpa using this, h.nt, h.kept⟩
                      · refine ⟨by simp [Bd.put], by simp only [Bd.put, if_true]; exact hbs.1, _, by simp only [Bd.put, if_true]; exact setRow_heap w (b.β n) arr _ e _ a3, ?_, ?_, ?_⟩
                        · simp only [List.size_toArray, List.length_append, List.length_take, List.length_drop, Array.length_toList, Bd.put, if_true]
                          rw [← a4]; omega
                        · simp only [List.size_toArray, List.length_append, List.length_take, List.length_drop, Array.length_toList, denL_length]
                          rw [b4] at *
                          have : news.length = m * i.size := hlen
                          omega
                        · intro j u hj
                          rw [SV.den_agree (hag _ _) u (okL_get hallok hj)]
                          have e1 : arr.toList.take (len * i.size) = SV.denL ρ b eh.blk.cells := by
                            apply List.ext_getElem?
                            intro q
                            rw [List.getElem?_take]
                            split
                            · rename_i hq
                              have : q < (SV.denL ρ b eh.blk.cells).length := by rw [denL_length, b4]; exact hq
                              rw [List.getElem?_eq_getElem this]
                              have := holds q _ (List.getElem?_eq_getElem this)
                              simpa using this
                            · rename_i hq
                              rw [List.getElem?_eq_none]
                              rw [denL_length, b4]; omega
                          rw [e1]
                          have : ((SV.denL ρ b eh.blk.cells ++ SV.denL ρ b news) ++ arr.toList.drop (len * i.size + (SV.denL ρ b news).length)).toArray[j]? = some (u.den ρ b) := by
                            rw [List.getElem?_toArray, List.getElem?_append_left]
                            · have e2 : SV.denL ρ b eh.blk.cells ++ SV.denL ρ b news = SV.denL ρ b (eh.blk.cells ++ news) := by simp [denL_map]
                              rw [e2, denL_get, hj]; rfl
                            · have := (List.getElem?_eq_some_iff.1 hj).1
                              simpa [denL_length] using this
                          exact this
                      · intro p e' hpf hpg
                        rw [find_del] at hpf
                        split at hpf
                        · cases hpf
                        · rename_i hne
                          have hp := h.heap.mem p e' hpf hpg
                          have hnb : b.β p ≠ b.β n := by
                            intro heq
                            by_cases hop : e'.blk.own = true
                            · exact hne (h.heap.inj n p eh e' hf hpf hg hpg hown hop heq.symm)
                            · have h2 := hp.2.1
                              unfold Blk.ok at h2
                              unfold Blk.own at hop
                              split at h2
                              · simp_all
                              · simp_all
                              · have h3 := h2.1; rw [heq] at h3; exact hbs.1 h3
                          exact ⟨setRow_other w (b.β n) _ _ hnb, fun _ => hnb⟩
                      · have hbel := h.below
                        exact ⟨hbel.os, hbel.tape, hbel.output, by simpa using hbel.size, fun k hk => by
                          rw [setRow_other w (b.β n) k _ (fun e => hbs.1 (e ▸ hk))]; exact hbel.block k hk⟩
                  · have hr := run_append_grow (P := P) w t ty e i z hu hi hz ⟨b.β n, 0, none⟩ len (b.κ n) (SV.denL ρ b eh.blk.cells) (by rw [denL_length, b4]) (fun j u hj => by
                        have := holds j u hj
                        have hadd : (⟨b.β n, 0, none⟩ : Addr).add j = ⟨b.β n, j, none⟩ := by unfold Addr.add; split <;> simp_all
                        rw [hadd]
                        simp [World.cell?, a3, this]) a m c (SV.denL ρ b news) hlenD hcell (by omega) (by omega) (growslice_fits (by omega) (by omega))
                    have hge := grownCap_ge w (len + m) (b.κ n) e
                    refine ⟨b.put S.next w.heap.size 0 (grownCap w (len + m) (b.κ n) e), w.drew.alloc (.cells ((SV.denL ρ b eh.blk.cells).toArray ++ (SV.denL ρ b news).toArray ++ Builtin.zeroCells z.cells (grownCap w (len + m) (b.κ n) e - (len + m))) e), ?_, hag _ _, ?_, Nat.lt_succ_self _, Nat.le_succ _⟩
                    · rw [hsd, hx, hr]
                      simp [SV.den, Bd.put]
                    · refine ⟨(h.heap.del n).add _ _ _ ?_ hallok ?_, tmps_put h.tmps (hag _ _) (fun n h => Nat.lt_succ_of_lt h), (h.below.drew).alloc h.base _, fun k hk => by rw [World.size_alloc]; exact Nat.lt_succ_of_lt (h.base k hk), h.nt, h.kept⟩
                      · refine ⟨by simp [Bd.put], by simp only [Bd.put, if_true]; exact fun hc => Nat.lt_irrefl _ (h.base _ hc), _, by simp only [Bd.put, if_true]; exact heap_alloc_new w.drew _, ?_, ?_, ?_⟩
                        · simp only [Array.size_append, List.size_toArray, size_zeroCells, hlenD, denL_length, b4, c2, Bd.put, if_true]
                          rw [← Nat.add_mul, ← Nat.add_mul]; congr 1; omega
                        · simp only [Array.size_append, List.size_toArray, denL_length, List.length_append]; omega
                        · intro j u hj
                          rw [SV.den_agree (hag _ _) u (okL_get hallok hj)]
                          have hl : j < (eh.blk.cells ++ news).length := (List.getElem?_eq_some_iff.1 hj).1
                          rw [Array.getElem?_append_left (by simp [denL_length]; simpa using hl)]
                          have e2 : (SV.denL ρ b eh.blk.cells).toArray ++ (SV.denL ρ b news).toArray = (SV.denL ρ b (eh.blk.cells ++ news)).toArray := by simp [denL_map]
                          rw [e2, List.getElem?_toArray, denL_get, hj]; rfl
                      · intro p e' hpf hpg
                        rw [find_del] at hpf
                        split at hpf
                        · cases hpf
                        · have hlt := (h.heap.mem p e' hpf hpg).2.1.lt h.base
                          exact ⟨heap_alloc_old w.drew _ _ hlt, fun _ => Nat.ne_of_lt hlt⟩
                · cases hs
              · cases hs
            · cases hs
          · cases hs
        · cases hs
      · cases hs
    · cases hs
  · cases hs
end Go.Proofs.Ytdfpenjhpemokaa.Sx
