/-
  A verified symbolic executor, part 10: append; operations that make blocks, from their text.
-/
import Derived.Test.YtdfpenjhpemokaaSxI
import Derived.LoopN
set_option linter.unusedVariables false
set_option linter.unusedSimpArgs false
namespace Go.Proofs.Ytdfpenjhpemokaa.Sx
open Go.RowKit (Below)

theorem HRel.add {ρ : Env} {b : Bd} {base : Nat → Prop} {w w' : World} {H : List (Nat × HEnt)} {nx : Nat} (h : HRel ρ b base w H (· < nx)) {B : Blk} (β o κ : Nat) (hB : B.ok ρ (b.put nx β o κ) base w' nx) (hk : SV.okL ρ (· < nx) B.cells)
    (hkeep : ∀ m e, find H m = some e → allB ρ e.g → w'.heap[b.β m]? = w.heap[b.β m]? ∧ (e.blk.own = true → b.β m ≠ β)) :
    HRel ρ (b.put nx β o κ) base w' (push H nx ⟨[], B⟩) (· < nx + 1) := by
  have hn : ¬ (nx < nx) := Nat.lt_irrefl _
  have ha : Agree b (b.put nx β o κ) (· < nx) := Bd.put_agree b _ _ _ hn
  have hput : (b.put nx β o κ).β nx = β := by simp [Bd.put]
  have hm : ∀ n e, find H n = some e → allB ρ e.g → n < nx + 1 ∧ e.blk.ok ρ (b.put nx β o κ) base w' n ∧ SV.okL ρ (· < nx + 1) e.blk.cells := by
    intro n e hf hg
    obtain ⟨h1, h2, h3⟩ := h.mem n e hf hg
    exact ⟨Nat.lt_succ_of_lt h1, h2.keep h1 h3 ha (hkeep n e hf hg).1, SV.okL_mono (fun n h => Nat.lt_succ_of_lt h) _ h3⟩
  constructor
  · intro n e hf hg
    rw [find_push] at hf
    split at hf
    · rename_i hnn
      subst hnn
      cases hf
      exact ⟨Nat.lt_succ_self _, hB, SV.okL_mono (fun n h => Nat.lt_succ_of_lt h) _ hk⟩
    · exact hm n e hf hg
  · intro n m e k hf hkf hg hgk ho hok heq
    rw [find_push] at hf hkf
    split at hf
    · rename_i hnn
      subst hnn
      split at hkf
      · assumption
      · exfalso
        have h1 := (h.mem m k hkf hgk).1
        rw [hput, (ha m h1).1] at heq
        exact (hkeep m k hkf hgk).2 hok heq.symm
    · split at hkf
      · rename_i hmm
        subst hmm
        exfalso
        have h1 := (h.mem n e hf hg).1
        rw [hput, (ha n h1).1] at heq
        exact (hkeep n e hf hg).2 ho heq
      · have h1 := (h.mem n e hf hg).1
        have h2 := (h.mem m k hkf hgk).1
        rw [(ha n h1).1, (ha m h2).1] at heq
        exact h.inj n m e k hf hkf hg hgk ho hok heq
theorem HRel.del {ρ : Env} {b : Bd} {base : Nat → Prop} {w : World} {H : List (Nat × HEnt)} {N : Nat → Prop} (h : HRel ρ b base w H N) (n : Nat) : HRel ρ b base w (del H n) N where
  mem := fun m e hf hg => by
    rw [find_del] at hf
    split at hf
    · cases hf
    · exact h.mem m e hf hg
  inj := fun m p e k hf hk hg hgk ho hok heq => by
    rw [find_del] at hf hk
    split at hf
    · cases hf
    · split at hk
      · cases hk
      · exact h.inj m p e k hf hk hg hgk ho hok heq
theorem tmps_put {ρ : Env} {b b' : Bd} {tm : Array Value} {T : List (Nat × Ent)} {N M : Nat → Prop} (h : ∀ i e, find T i = some e → e.at ρ b N tm i) (ha : Agree b b' N) (hNM : ∀ n, N n → M n) : ∀ i e, find T i = some e → e.at ρ b' M tm i := by
  intro i e hf
  obtain ⟨h1, h2⟩ := h i e hf
  refine ⟨fun hg => ?_, h2⟩
  obtain ⟨h3, h4⟩ := h1 hg
  exact ⟨by rw [SV.den_agree ha _ h4]; exact h3, SV.ok_mono hNM _ h4⟩

def sElems (A : List E) (S : St) (size : Nat) : SV → Option (List SV)
  | .sl n off len _ => match blkOf A S n with
    | some B => if off + len * size ≤ B.cells.length then some ((B.cells.drop off).take (len * size)) else none
    | none => none
  | _ => none
theorem sElems_ok {ρ : Env} {b : Bd} {base : Nat → Prop} {w0 w : World} {S : St} {tm : Array Value} {A : List E} (h : Rel ρ b base w0 w S tm) (hA : allB ρ A) {size : Nat} {x : SV} {cs : List SV} (hx : sElems A S size x = some cs) :
    ∃ a n c, x.den ρ b = .slice (some a) n c ∧ cs.length = n * size ∧ SV.okL ρ (· < S.next) cs ∧ ∀ j u, (SV.denL ρ b cs)[j]? = some u → w.cell? (a.add j) = some u := by
  unfold sElems at hx
  split at hx
  · rename_i n off len cap
    split at hx
    · rename_i B hB
      split at hx
      · rename_i hl
        cases hx
        obtain ⟨m1, m2, m3⟩ := blkOf_ok h hA hB
        refine ⟨⟨b.β n, b.o n + off, none⟩, len, cap.getD (b.κ n), rfl, by simp; omega, okL_take m3 _ _, fun j u hj => ?_⟩
        rw [denL_get] at hj
        cases hg : ((B.cells.drop off).take (len * size))[j]? with
        | none => rw [hg] at hj; cases hj
        | some y =>
          rw [hg] at hj
          cases hj
          rw [add_lit]
          refine m2.cell ?_
          rw [List.getElem?_take] at hg
          split at hg
          · simpa using hg
          · cases hg
      · cases hx
    · cases hx
  · cases hx

def lenOfS : SV → Nat
  | .sl _ _ m _ => m
  | _ => 0
def sAppend (P : Program) (A : List E) (S : St) (t t' : TypeId) (s x : SV) : Option (SV × St) :=
  if t = t' ∧ A.isEmpty = true then
    match P.underlying t with
    | some (.slice e) =>
      match P.info? e with
      | some i =>
        match sElems A S i.size x, i.zero with
        | some news, some z =>
          let m := lenOfS x
          if 0 < i.size ∧ z.cells.size = i.size ∧ news.all SV.isOne = true ∧ 0 < m then
            match s with
            | .nils => if m ≤ 1000000 ∧ m * i.bytes ≤ 100000000 then some (.sl S.next 0 m none, { S with heap := push S.heap S.next ⟨[], ⟨news, e, .grow i.size⟩⟩, next := S.next + 1 }) else none
            | .sl n 0 len none =>
              match find S.heap n with
              | some h =>
                if h.g.isEmpty = true ∧ h.blk.kind = .grow i.size ∧ h.blk.elem = e ∧ h.blk.cells.length = len * i.size ∧ len + m ≤ 1000000 ∧ (len + m) * i.bytes ≤ 100000000
                then some (.sl S.next 0 (len + m) none, { S with heap := push (del S.heap n) S.next ⟨[], ⟨h.blk.cells ++ news, e, .grow i.size⟩⟩, next := S.next + 1 }) else none
              | none => none
            | _ => none
          else none
        | _, _ => none
      | none => none
    | _ => none
  else none
theorem sAppend_ok {P : Program} {A : List E} {S S' : St} {t t' ty : TypeId} {s x v : SV} (hs : sAppend P A S t t' s x = some (v, S')) {ρ : Env} {b : Bd} {base : Nat → Prop} {w0 w : World} {tm : Array Value} (h : Rel ρ b base w0 w S tm) (hA : allB ρ A) (hsok : s.ok ρ (· < S.next)) :
    ∃ b' w', (Builtin.append_ #[t, t'] ty #[s.den ρ b, x.den ρ b]).run P w = .ok (v.den ρ b') w' ∧ Agree b b' (· < S.next) ∧ Rel ρ b' base w0 w' S' tm ∧ v.ok ρ (· < S'.next) ∧ S.next ≤ S'.next := by
  unfold sAppend at hs
  split at hs
  · rename_i hc0
    obtain ⟨rfl, hAe⟩ := hc0
    split at hs
    · rename_i e hu
      split at hs
      · rename_i i hi
        split at hs
        · rename_i news z hn hz
          dsimp only at hs
          obtain ⟨a, m, c, hx, hlen, hnok, hcell⟩ := sElems_ok h hA hn
          have hm : lenOfS x = m := by
            cases x <;> simp [SV.den] at hx <;> first | exact hx.2.1 | (exfalso; simp [sElems] at hn; done) | (split at hx <;> cases hx)
          rw [hm] at hs
          split at hs
          · rename_i hc
            obtain ⟨c1, c2, c3, c4⟩ := hc
            have hlenD : (SV.denL ρ b news).length = m * i.size := by rw [denL_length]; exact hlen
            split at hs
            · split at hs
              · rename_i hb
                cases hs
                have hr := run_append_nil (P := P) w t ty e i z hu hi hz a m c (SV.denL ρ b news) hlenD hcell c4 (by omega) (by omega)
                have hge := grownCap_ge w m 0 e
                refine ⟨b.put S.next w.heap.size 0 (grownCap w m 0 e), w.drew.alloc (.cells ((SV.denL ρ b news).toArray ++ Builtin.zeroCells z.cells (grownCap w m 0 e - m)) e), ?_, Bd.put_agree b _ _ _ (Nat.lt_irrefl _), ?_, Nat.lt_succ_self _, Nat.le_succ _⟩
                · simp only [SV.den, hx]
                  rw [hr]
                  simp [SV.den, Bd.put]
                · refine ⟨h.heap.add _ _ _ ?_ hnok ?_, tmps_put h.tmps (Bd.put_agree b _ _ _ (Nat.lt_irrefl _)) (fun n h => Nat.lt_succ_of_lt h), (h.below.drew).alloc h.base _, fun k hk => by rw [World.size_alloc]; exact Nat.lt_succ_of_lt (h.base k hk), h.nt, h.kept⟩
                  · refine ⟨by simp [Bd.put], by simp only [Bd.put, if_true]; exact fun hc => Nat.lt_irrefl _ (h.base _ hc), _, by simp only [Bd.put, if_true]; exact heap_alloc_new w.drew _, ?_, ?_, ?_⟩
                    · simp only [Array.size_append, List.size_toArray, size_zeroCells, hlenD, c2, Bd.put, if_true]
                      rw [← Nat.add_mul]; congr 1; omega
                    · simp only [Array.size_append, List.size_toArray, denL_length]; omega
                    · intro j u hj
                      have hag : Agree b (b.put S.next w.heap.size 0 (grownCap w m 0 e)) (· < S.next) := Bd.put_agree b _ _ _ (Nat.lt_irrefl _)
                      rw [SV.den_agree hag u (okL_get hnok hj)]
                      have hl : j < news.length := (List.getElem?_eq_some_iff.1 hj).1
                      rw [Array.getElem?_append_left (by simp [denL_length]; exact hl)]
                      simp [denL_get, hj]
                  · intro n e' hf hg
                    have hlt := (h.heap.mem n e' hf hg).2.1.lt h.base
                    exact ⟨heap_alloc_old w.drew _ _ hlt, fun _ => Nat.ne_of_lt hlt⟩
              · cases hs
            · rename_i n len
              split at hs
              · rename_i eh hf
                split at hs
                · rename_i hb
                  obtain ⟨b1, b2, b3, b4, b5, b6⟩ := hb
                  cases hs
                  have hg : allB ρ eh.g := by have : eh.g = [] := by simpa using b1
                                              rw [this]; intro _ h; cases h
                  obtain ⟨m1, m2, m3⟩ := h.heap.mem n eh hf hg
                  have hown : eh.blk.own = true := by simp [Blk.own, b2]
                  have hbs := m2.base hown
                  have hm2 := m2
                  unfold Blk.ok at m2
                  rw [b2] at m2
                  dsimp only at m2
                  obtain ⟨a1, a2, arr, a3, a4, a5, a6⟩ := m2
                  rw [b3] at a3
                  have hag : ∀ β κ, Agree b (b.put S.next β 0 κ) (· < S.next) := fun β κ => Bd.put_agree b _ _ _ (Nat.lt_irrefl _)
                  have hallok : SV.okL ρ (· < S.next) (eh.blk.cells ++ news) := (okL_all _ _ _).2 fun y hy => by
                    rcases List.mem_append.1 hy with hy | hy
                    · exact (okL_all _ _ _).1 m3 y hy
                    · exact (okL_all _ _ _).1 hnok y hy
                  have hsd : (SV.sl n 0 len none).den ρ b = .slice (some ⟨b.β n, 0, none⟩) len (b.κ n) := by simp [SV.den, hbs.2.2]
                  have holds : ∀ (j : Nat) (u : Value), (SV.denL ρ b eh.blk.cells)[j]? = some u → arr[j]? = some u := by
                    intro j u hj
                    rw [denL_get] at hj
                    cases hq : eh.blk.cells[j]? with
                    | none => rw [hq] at hj; cases hj
                    | some y => rw [hq] at hj; cases hj; exact a6 j y hq
                  by_cases hroom : len + m ≤ b.κ n
                  · have hfit : len * i.size + (SV.denL ρ b news).length ≤ arr.size := by rw [hlenD, a4, ← Nat.add_mul]; exact Nat.mul_le_mul_right _ hroom
                    have hone : ∀ u ∈ SV.denL ρ b news, u.oneCell' = true := by
                      intro u hu
                      rw [denL_map, List.mem_map] at hu
                      obtain ⟨y, hy, rfl⟩ := hu
                      exact (SV.isOne_den (List.all_eq_true.1 c3 y hy) ρ b).1
                    have hr := run_append_room (P := P) w t ty e i hu hi (b.β n) len (b.κ n) arr a3 a m c (SV.denL ρ b news) hlenD hcell hone hroom hfit
                    refine ⟨b.put S.next (b.β n) 0 (b.κ n), w.setRow (b.β n) (arr.toList.take (len * i.size) ++ SV.denL ρ b news ++ arr.toList.drop (len * i.size + (SV.denL ρ b news).length)).toArray, ?_, hag _ _, ?_, Nat.lt_succ_self _, Nat.le_succ _⟩
                    · rw [hsd, hx, hr]
                      simp [SV.den, Bd.put]
                    · refine ⟨(h.heap.del n).add _ _ _ ?_ hallok ?_, tmps_put h.tmps (hag _ _) (fun n h => Nat.lt_succ_of_lt h), ?_, by have := h.base; simpa using this, h.nt, h.kept⟩
                      · refine ⟨by simp [Bd.put], by simp only [Bd.put, if_true]; exact hbs.1, _, by simp only [Bd.put, if_true]; exact setRow_heap w (b.β n) arr _ e _ a3, ?_, ?_, ?_⟩
                        · simp only [List.size_toArray, List.length_append, List.length_take, List.length_drop, Array.length_toList, Bd.put, if_true]
                          rw [← a4]; omega
                        · simp only [List.size_toArray, List.length_append, List.length_take, List.length_drop, Array.length_toList, denL_length]
                          rw [b4] at *
                          have : news.length = m * i.size := hlen
                          omega
                        · intro j u hj
                          rw [SV.den_agree (hag _ _) u (okL_get hallok hj)]
                          have e1 : arr.toList.take (len * i.size) = SV.denL ρ b eh.blk.cells := by
                            apply List.ext_getElem?
                            intro q
                            rw [List.getElem?_take]
                            split
                            · rename_i hq
                              have : q < (SV.denL ρ b eh.blk.cells).length := by rw [denL_length, b4]; exact hq
                              rw [List.getElem?_eq_getElem this]
                              have := holds q _ (List.getElem?_eq_getElem this)
                              simpa using this
                            · rename_i hq
                              rw [List.getElem?_eq_none]
                              rw [denL_length, b4]; omega
                          rw [e1]
                          have : ((SV.denL ρ b eh.blk.cells ++ SV.denL ρ b news) ++ arr.toList.drop (len * i.size + (SV.denL ρ b news).length)).toArray[j]? = some (u.den ρ b) := by
                            rw [List.getElem?_toArray, List.getElem?_append_left]
                            · have e2 : SV.denL ρ b eh.blk.cells ++ SV.denL ρ b news = SV.denL ρ b (eh.blk.cells ++ news) := by simp [denL_map]
                              rw [e2, denL_get, hj]; rfl
                            · have := (List.getElem?_eq_some_iff.1 hj).1
                              simpa [denL_length] using this
                          exact this
                      · intro p e' hpf hpg
                        rw [find_del] at hpf
                        split at hpf
                        · cases hpf
                        · rename_i hne
                          have hp := h.heap.mem p e' hpf hpg
                          have hnb : b.β p ≠ b.β n := by
                            intro heq
                            by_cases hop : e'.blk.own = true
                            · exact hne (h.heap.inj n p eh e' hf hpf hg hpg hown hop heq.symm)
                            · have h2 := hp.2.1
                              unfold Blk.ok at h2
                              unfold Blk.own at hop
                              split at h2
                              · simp_all
                              · simp_all
                              · have h3 := h2.1; rw [heq] at h3; exact hbs.1 h3
                          exact ⟨setRow_other w (b.β n) _ _ hnb, fun _ => hnb⟩
                      · have hbel := h.below
                        exact ⟨hbel.os, hbel.tape, hbel.output, by simpa using hbel.size, fun k hk => by
                          rw [setRow_other w (b.β n) k _ (fun e => hbs.1 (e ▸ hk))]; exact hbel.block k hk⟩
                  · have hr := run_append_grow (P := P) w t ty e i z hu hi hz ⟨b.β n, 0, none⟩ len (b.κ n) (SV.denL ρ b eh.blk.cells) (by rw [denL_length, b4]) (fun j u hj => by
                        have := holds j u hj
                        have hadd : (⟨b.β n, 0, none⟩ : Addr).add j = ⟨b.β n, j, none⟩ := by unfold Addr.add; split <;> simp_all
                        rw [hadd]
                        simp [World.cell?, a3, this]) a m c (SV.denL ρ b news) hlenD hcell (by omega) (by omega) (growslice_fits (by omega) (by omega))
                    have hge := grownCap_ge w (len + m) (b.κ n) e
                    refine ⟨b.put S.next w.heap.size 0 (grownCap w (len + m) (b.κ n) e), w.drew.alloc (.cells ((SV.denL ρ b eh.blk.cells).toArray ++ (SV.denL ρ b news).toArray ++ Builtin.zeroCells z.cells (grownCap w (len + m) (b.κ n) e - (len + m))) e), ?_, hag _ _, ?_, Nat.lt_succ_self _, Nat.le_succ _⟩
                    · rw [hsd, hx, hr]
                      simp [SV.den, Bd.put]
                    · refine ⟨(h.heap.del n).add _ _ _ ?_ hallok ?_, tmps_put h.tmps (hag _ _) (fun n h => Nat.lt_succ_of_lt h), (h.below.drew).alloc h.base _, fun k hk => by rw [World.size_alloc]; exact Nat.lt_succ_of_lt (h.base k hk), h.nt, h.kept⟩
                      · refine ⟨by simp [Bd.put], by simp only [Bd.put, if_true]; exact fun hc => Nat.lt_irrefl _ (h.base _ hc), _, by simp only [Bd.put, if_true]; exact heap_alloc_new w.drew _, ?_, ?_, ?_⟩
                        · simp only [Array.size_append, List.size_toArray, size_zeroCells, hlenD, denL_length, b4, c2, Bd.put, if_true]
                          rw [← Nat.add_mul, ← Nat.add_mul]; congr 1; omega
                        · simp only [Array.size_append, List.size_toArray, denL_length, List.length_append]; omega
                        · intro j u hj
                          rw [SV.den_agree (hag _ _) u (okL_get hallok hj)]
                          have hl : j < (eh.blk.cells ++ news).length := (List.getElem?_eq_some_iff.1 hj).1
                          rw [Array.getElem?_append_left (by simp [denL_length]; simpa using hl)]
                          have e2 : (SV.denL ρ b eh.blk.cells).toArray ++ (SV.denL ρ b news).toArray = (SV.denL ρ b (eh.blk.cells ++ news)).toArray := by simp [denL_map]
                          rw [e2, List.getElem?_toArray, denL_get, hj]; rfl
                      · intro p e' hpf hpg
                        rw [find_del] at hpf
                        split at hpf
                        · cases hpf
                        · have hlt := (h.heap.mem p e' hpf hpg).2.1.lt h.base
                          exact ⟨heap_alloc_old w.drew _ _ hlt, fun _ => Nat.ne_of_lt hlt⟩
                · cases hs
              · cases hs
            · cases hs
          · cases hs
        · cases hs
      · cases hs
    · cases hs
  · cases hs
end Go.Proofs.Ytdfpenjhpemokaa.Sx
/-
  A verified symbolic executor, part 11: one operation that works on memory, from its text; one operation.
-/
namespace Go.Proofs.Ytdfpenjhpemokaa.Sx
open Go.RowKit (Below)

def zrep (z : Array Value) (n : Nat) : List SV := (List.range n).map fun i => SV.ofValue (z[i % z.size]!)
theorem zrep_den (ρ : Env) (b : Bd) (z : Array Value) (n : Nat) : (SV.denL ρ b (zrep z n)).toArray = (Array.range n).map (z[· % z.size]!) := by
  apply Array.ext'
  rw [zrep, denL_map, List.map_map]
  simp [Array.toList_range, Function.comp_def, SV.ofValue_den]
theorem zrep_ok (ρ : Env) (N : Nat → Prop) (z : Array Value) (n : Nat) : SV.okL ρ N (zrep z n) :=
  (okL_all _ _ _).2 fun v hv => by
    obtain ⟨x, _, rfl⟩ := List.mem_map.1 hv
    exact SV.ofValue_ok ρ N _
def zcells (P : Program) (e : TypeId) (n : Nat) : Option (Array Value) := if n = 0 then some #[] else (zeroT P e).map (·.cells)
theorem run_zcells {P : Program} {e : TypeId} {n : Nat} {z : Array Value} (h : zcells P e n = some z) (w : World) : (if n = 0 then pure #[] else do pure (← zeroValue e).cells : Sem (Array Value)).run P w = .ok z w := by
  unfold zcells at h
  split at h
  · rename_i h0; cases h; simp [h0]
  · rename_i h0
    rw [Option.map_eq_some_iff] at h
    obtain ⟨v, hv, rfl⟩ := h
    simp [h0, run_zero hv]
def litNat : SV → Option Nat
  | .int .i64 r => if r.lo = r.hi ∧ 0 ≤ r.lo then some r.lo.toNat else none
  | _ => none
theorem litNat_ok {x : SV} {n : Nat} (h : litNat x = some n) {ρ : Env} {b : Bd} {N : Nat → Prop} (hx : x.ok ρ N) : x.den ρ b = .int .i64 (n : Int) := by
  unfold litNat at h
  split at h
  · split at h
    · rename_i r hc
      cases h
      have : r.e.i ρ = r.lo := by have := hx.1; have := hx.2; omega
      simp only [SV.den, this]; congr 1; omega
    · cases h
  · cases h

def opN (P : Program) (A : List E) (S : St) (o : Oper) : Option (SV × List SV × TypeId) :=
  match o.op with
  | .alloc t => (zeroT P t).map fun z => (.ptr S.next 0, zeroL z, t)
  | .box t x => match ev A S x with
    | some v => if oneOrAgg v = true then some (.ptr S.next 0, v.cells, t) else none
    | none => none
  | .buildSlice t len parts =>
    match P.underlying t, evParts A S parts.toList with
    | some (.slice e), some ps => match sizeT P e with
      | some size => if len * size ≤ 2 ^ 24 then
          match zcells P e (len * size) with
          | some z => match sFill (fun i => some (i * size, size)) (zrep z (len * size)) ps with
            | some cs => some (.sl S.next 0 len (some len), cs, e)
            | none => none
          | none => none
        else none
      | none => none
    | _, _ => none
  | .makeSlice t l c =>
    match P.underlying t, ev A S l, ev A S c with
    | some (.slice e), some lv, some cv => match litNat lv, litNat cv, P.info? e with
      | some n, some k, some i => if n ≤ k ∧ i.bytes * k ≤ 1000000000 ∧ k ≤ 1000000 then
          match zcells P e (k * i.size) with
          | some z => some (.sl S.next 0 n (some k), zrep z (k * i.size), e)
          | none => none
        else none
      | _, _, _ => none
    | _, _, _ => none
  | _ => none
def opW (P : Program) (A : List E) (S : St) (o : Oper) : Option (SV × St) :=
  match o.op with
  | .store t x v => match ev A S x, ev A S v with
    | some p, some u => (sStore P A S t p u).map fun S' => (.tup [], S')
    | _, _ => none
  | .call { callee := .builtin .append, args := args, argTypes := ts } => match args.toList, ts.toList with
    | [x, y], [t, t'] => match ev A S x, ev A S y with
      | some s, some u => sAppend P A S t t' s u
      | _, _ => none
    | _, _ => none
  | _ => none

def leaves (P : Program) (o : Oper) (a : Act) (w : World) (v : Value) (w' : World) : Prop :=
  (execOp a.eval o).run P w = .ok (.value v) w' ∨ ((execOp a.eval o).run P w = .ok .skip w' ∧ v = undef)

theorem opN_ok {P : Program} {ρ : Env} {b : Bd} {base : Nat → Prop} {w0 w : World} {S : St} {a : Act} {A : List E} (h : Rel ρ b base w0 w S a.tmps) (hA : allB ρ A) {o : Oper} {v : SV} {cells : List SV} {elem : TypeId} (ho : opN P A S o = some (v, cells, elem)) :
    leaves P o a w (v.den ρ (b.put S.next w.heap.size 0 0)) (w.alloc (.cells (SV.denL ρ b cells).toArray elem)) ∧ SV.okL ρ (· < S.next) cells ∧ v.ok ρ (· < S.next + 1) := by
  unfold opN at ho
  split at ho
  · rename_i t hop
    rw [Option.map_eq_some_iff] at ho
    obtain ⟨z, hz, he⟩ := ho
    cases he
    refine ⟨.inl ?_, zeroL_ok ρ _ z, Nat.lt_succ_self _⟩
    rw [zeroL_den]
    simp [execOp, hop, Instr.alloc, run_zero hz, newVar, newRow, SV.den, Bd.put]
  · rename_i t x hop
    split at ho
    · rename_i u hx
      split at ho
      · rename_i h1
        cases ho
        have e1 := ev_ok h hA hx
        refine ⟨.inl ?_, SV.cells_ok e1.2, Nat.lt_succ_self _⟩
        rw [← SV.cells_den ρ b (oneOrAgg_ok h1)]
        simp [execOp, hop, Instr.box, e1.1, newVar, newRow, SV.den, Bd.put]
      · cases ho
    · cases ho
  · rename_i t len parts hop
    split at ho
    · rename_i e ps hu hps
      split at ho
      · rename_i size hs
        split at ho
        · rename_i hle
          split at ho
          · rename_i z hz
            split at ho
            · rename_i cs hcs
              cases ho
              have e1 := evParts_ok h hA hps
              have hf := sFill_ok (b := b) ps _ _ hcs (zrep_ok ρ _ z _) e1.2
              rw [zrep_den] at hf
              refine ⟨.inl ?_, hf.2, Nat.lt_succ_self _⟩
              have hz' := run_zcells hz w
              have hpa : (parts.map fun (i, x) => (i, a.eval x)).toList = ps.map fun x => (x.1, x.2.den ρ b) := by rw [Array.toList_map]; exact e1.1
              simp only [execOp, hop, Instr.buildSlice, Sem.run_bind, run_underlying hu, Result.andThen, run_sizeOf hs]
              rw [if_neg (by omega)]
              unfold zcells at hz
              by_cases h0 : len * size = 0
              · have hf1 := hf.1
                rw [if_pos h0] at hz
                cases hz
                simp [h0] at hf1
                simp [h0, e1.1, hf1, newRow, SV.den, Bd.put]
              · have hf1 := hf.1
                rw [if_neg h0, Option.map_eq_some_iff] at hz
                obtain ⟨zv, hzv, rfl⟩ := hz
                simp [h0, e1.1, run_zero hzv, hf1, newRow, SV.den, Bd.put]
            · cases ho
          · cases ho
        · cases ho
      · cases ho
    · cases ho
  · rename_i t l c hop
    split at ho
    · rename_i e lv cv hu hl hc
      split at ho
      · rename_i n k i hln hck hi
        split at ho
        · rename_i hb
          obtain ⟨b1, b2, b3⟩ := hb
          split at ho
          · rename_i z hz
            cases ho
            have e1 := ev_ok h hA hl
            have e2 := ev_ok h hA hc
            have d1 := litNat_ok hln (b := b) e1.2
            have d2 := litNat_ok hck (b := b) e2.2
            refine ⟨.inl ?_, zrep_ok ρ _ z _, Nat.lt_succ_self _⟩
            rw [zrep_den]
            have hz' := run_zcells hz w
            have w1 : IntKind.i64.wrap (n : Int) = n := IntWalk.i64_in _ (by omega)
            have w2 : IntKind.i64.wrap (k : Int) = k := IntWalk.i64_in _ (by omega)
            have w3 : ((i.bytes : Int) * (k : Int)) = ((i.bytes * k : Nat) : Int) := by simp
            have t1 : (decide ((k : Int) < 0) || decide ((i.bytes : Int) * (k : Int) > 2 ^ 48)) = false := by
              rw [w3]; simp; omega
            simp only [execOp, hop, Instr.makeSlice, Sem.run_bind, run_underlying hu, Result.andThen, e1.1, e2.1, d1, d2, asInt, asIntOf, Sem.run_pure, typeInfo, run_program, hi, w1, w2]
            rw [if_neg (by simp [t1]; omega)]
            unfold zcells at hz
            by_cases h0 : k * i.size = 0
            · rw [if_pos h0] at hz
              cases hz
              simp [h0, sizeOf, typeInfo, hi, newRow, SV.den, Bd.put]
            · rw [if_neg h0, Option.map_eq_some_iff] at hz
              obtain ⟨zv, hzv, rfl⟩ := hz
              simp [h0, sizeOf, typeInfo, hi, run_zero hzv, newRow, SV.den, Bd.put]
          · cases ho
        · cases ho
      · cases ho
    · cases ho
  · cases ho
theorem opW_ok {P : Program} {ρ : Env} {b : Bd} {base : Nat → Prop} {w0 w : World} {S S' : St} {a : Act} {A : List E} (h : Rel ρ b base w0 w S a.tmps) (hA : allB ρ A) {o : Oper} {v : SV} (ho : opW P A S o = some (v, S')) :
    ∃ b' w', leaves P o a w (v.den ρ b') w' ∧ Agree b b' (· < S.next) ∧ Rel ρ b' base w0 w' S' a.tmps ∧ v.ok ρ (· < S'.next) ∧ S.next ≤ S'.next := by
  unfold opW at ho
  split at ho
  · rename_i t x u hop
    split at ho
    · rename_i p y hp hy
      rw [Option.map_eq_some_iff] at ho
      obtain ⟨S1, hs, he⟩ := ho
      cases he
      have e1 := ev_ok h hA hp
      have e2 := ev_ok h hA hy
      obtain ⟨w', hr, hrel, hnx⟩ := sStore_ok hs h e2.2
      refine ⟨b, w', .inr ⟨?_, rfl⟩, Agree.refl b _, hrel, trivial, by omega⟩
      simp [execOp, hop, e1.1, e2.1, hr]
    · cases ho
  · rename_i args ts hop
    split at ho
    · rename_i x y t t' hx ht
      split at ho
      · rename_i s u hs hu
        have e1 := ev_ok h hA hs
        have e2 := ev_ok h hA hu
        obtain ⟨b', w', hr, ha, hrel, hok, hle⟩ := sAppend_ok (ty := o.type) ho h hA e1.2
        refine ⟨b', w', .inl ?_, ha, hrel, hok, hle⟩
        obtain rfl : args = #[x, y] := by apply Array.ext'; simpa using hx
        obtain rfl : ts = #[t, t'] := by apply Array.ext'; simpa using ht
        simp [execOp, hop, resolve, invoke, builtin, e1.1, e2.1, hr]
      · cases ho
    · cases ho
  · cases ho

theorem leaves_wp {P : Program} {o : Oper} {a : Act} {w w' : World} {v : Value} (h : leaves P o a w v w') {K : Act → World → Prop} {Q : Exit → Act → World → Prop} (hk : K (a.put o.dst v) w') : o.wp P a w K Q := by
  unfold Oper.wp
  rcases h with h | ⟨h, rfl⟩ <;> rw [h] <;> exact hk
end Go.Proofs.Ytdfpenjhpemokaa.Sx
/-
  A verified symbolic executor, part 12: trees of states; what a test tells; ways that meet again.
-/
namespace Go.Proofs.Ytdfpenjhpemokaa.Sx
open Go.RowKit (Below)

inductive T (α : Type) where
  | leaf (x : α)
  | node (c : E) (t u : T α)
  deriving Inhabited
def T.at {α : Type} (ρ : Env) : T α → α
  | .leaf x => x
  | .node c t u => if c.b ρ = true then t.at ρ else u.at ρ
structure VC where
  pc : List E
  e : E
  deriving Repr, Inhabited
def VC.holds (ρ : Env) (v : VC) : Prop := allB ρ v.pc → v.e.b ρ = true
def allV (ρ : Env) (l : List VC) : Prop := ∀ v ∈ l, v.holds ρ
theorem allV_app {ρ : Env} {l m : List VC} : allV ρ (l ++ m) ↔ allV ρ l ∧ allV ρ m := by
  unfold allV
  simp only [List.mem_append]
  exact ⟨fun h => ⟨fun v hv => h v (.inl hv), fun v hv => h v (.inr hv)⟩, fun h v hv => hv.elim (h.1 v) (h.2 v)⟩
theorem allB_cons {ρ : Env} {e : E} {l : List E} (h : e.b ρ = true) (hl : allB ρ l) : allB ρ (e :: l) := by
  intro x hx
  cases hx with
  | head => exact h
  | tail _ hx => exact hl x hx
theorem allB_nil (ρ : Env) : allB ρ [] := fun _ h => by cases h
def T.bind {α β : Type} (f : List E → α → Option (T β × List VC)) : List E → T α → Option (T β × List VC)
  | pc, .leaf x => f pc x
  | pc, .node c t u => match T.bind f (c :: pc) t, T.bind f (mkNot c :: pc) u with
    | some (t', v), some (u', v') => some (.node c t' u', v ++ v')
    | _, _ => none
theorem Blk.ok.cells {ρ : Env} {b : Bd} {base : Nat → Prop} {w : World} {n : Nat} {B : Blk} (h : B.ok ρ b base w n) {cs : List SV} (hc : SV.denL ρ b cs = SV.denL ρ b B.cells) : ({ B with cells := cs } : Blk).ok ρ b base w n := by
  have hl : cs.length = B.cells.length := by have := congrArg List.length hc; simpa [denL_length] using this
  have hg : ∀ (i : Nat) (v : SV), cs[i]? = some v → ∃ u : SV, B.cells[i]? = some u ∧ u.den ρ b = v.den ρ b := by
    intro i v hi
    have := congrArg (fun l => l[i]?) hc
    simp only [denL_get, hi, Option.map_some] at this
    cases hq : B.cells[i]? with
    | none => rw [hq] at this; cases this
    | some u => rw [hq] at this; exact ⟨u, rfl, by simpa using this.symm⟩
  unfold Blk.ok at h ⊢
  cases hk : B.kind with
  | full => rw [hk] at h; dsimp only at h ⊢; rw [hc]; exact h
  | grow sz =>
    rw [hk] at h
    dsimp only at h ⊢
    obtain ⟨h0, h1, arr, h2, h3, h4, h5⟩ := h
    refine ⟨h0, h1, arr, h2, h3, by omega, fun i v hi => ?_⟩
    obtain ⟨u, hu, he⟩ := hg i v hi
    rw [← he]; exact h5 i u hu
  | far =>
    rw [hk] at h
    dsimp only at h ⊢
    refine ⟨h.1, fun i v hi => ?_⟩
    obtain ⟨u, hu, he⟩ := hg i v hi
    rw [← he]; exact h.2 i u hu
theorem find_map {α : Type} (f : α → α) (l : List (Nat × α)) (n : Nat) : find (l.map fun x => (x.1, f x.2)) n = (find l n).map f := by
  induction l with
  | nil => rfl
  | cons a l ih =>
    simp only [List.map_cons, find, ih]
    split <;> rfl
end Go.Proofs.Ytdfpenjhpemokaa.Sx
/-
  A verified symbolic executor, part 13: states that meet again; results of a function.
-/
namespace Go.Proofs.Ytdfpenjhpemokaa.Sx
open Go.RowKit (Below)

theorem find_mem {α : Type} {l : List (Nat × α)} {n : Nat} {x : α} (h : find l n = some x) : (n, x) ∈ l := by
  induction l with
  | nil => cases h
  | cons a l ih =>
    obtain ⟨m, y⟩ := a
    simp only [find] at h
    split at h
    · rename_i he; cases h; subst he; exact .head _
    · exact .tail _ (ih h)
inductive XK where
  | normal | exit (id : Nat) | ret
  deriving DecidableEq, Repr, Inhabited
structure Lf where
  x : XK
  st : St
  deriving Inhabited
end Go.Proofs.Ytdfpenjhpemokaa.Sx
/-
  A verified symbolic executor, part 13b: great terms get names of their own; what the names stand for is left to be shown.
-/
namespace Go.Proofs.Ytdfpenjhpemokaa.Sx
open Go.RowKit (Below)

def E.left : E → Nat → Nat
  | .un _ a, n => if n = 0 then 0 else a.left (n - 1)
  | .bin _ a b, n => if n = 0 then 0 else b.left (a.left (n - 1))
  | .ite d a b, n => if n = 0 then 0 else b.left (a.left (d.left (n - 1)))
  | .ap _ a, n => if n = 0 then 0 else a.left (n - 1)
  | .cons a b, n => if n = 0 then 0 else b.left (a.left (n - 1))
  | _, n => n - 1
def kNo : IntKind → Nat
  | .i8 => 1 | .i16 => 2 | .i32 => 3 | .i64 => 4 | .u8 => 5 | .u16 => 6 | .u32 => 7 | .u64 => 8
def BOp.no : BOp → Nat
  | .add => 11 | .sub => 12 | .mul => 13 | .quo => 14 | .rem => 15 | .div => 16 | .mod => 17 | .min => 18 | .max => 19 | .lt => 20 | .le => 21 | .eq => 22 | .and => 23 | .or => 24 | .app => 25
def hmix (a b : Nat) : Nat := (a * 1000003 + b * 998244353 + 12345) % 2305843009213693951
def E.hash : E → Nat
  | .v n => hmix 1 n
  | .bv n => hmix 2 n
  | .c z => match z with
    | .ofNat n => hmix 3 n
    | .negSucc n => hmix 4 n
  | .bc b => if b then 5 else 6
  | .un o a => hmix (match o with | .not => 7 | .wrap k => 30 + kNo k) a.hash
  | .bin o a b => hmix (hmix (100 + o.no) a.hash) b.hash
  | .ite d a b => hmix (hmix (hmix 8 d.hash) a.hash) b.hash
  | .ap k a => hmix (hmix 9 k) a.hash
  | .nil => 10
  | .cons a b => hmix (hmix 11 a.hash) b.hash
def nmNo (e : E) : Nat := e.hash + 1000
def E.big (k : Nat) (e : E) : Bool := Nat.beq (e.left k) 0
def R.nm (k : Nat) (r : R) : R := if r.e.big k then ⟨.v (nmNo r.e), r.lo, r.hi⟩ else r
def R.nmc (k : Nat) (r : R) : List VC := if r.e.big k then [⟨[], .bin .eq (.v (nmNo r.e)) r.e⟩] else []
def E.nm (k : Nat) (e : E) : E := if e.big k then .bv (nmNo e) else e
def E.nmc (k : Nat) (e : E) : List VC := if e.big k then [⟨[], .ite (.bv (nmNo e)) e (.un .not e)⟩] else []
theorem VC.holds_nil {ρ : Env} {e : E} (h : VC.holds ρ ⟨[], e⟩) : e.b ρ = true := h (allB_nil ρ)
theorem R.nm_i {ρ : Env} {k : Nat} {r : R} (h : allV ρ (r.nmc k)) : (r.nm k).e.i ρ = r.e.i ρ ∧ (r.nm k).lo = r.lo ∧ (r.nm k).hi = r.hi := by
  unfold R.nm
  unfold R.nmc at h
  split
  · rename_i hb
    rw [if_pos hb] at h
    have := VC.holds_nil (h _ (.head _))
    simp only [E.b, decide_eq_true_eq] at this
    exact ⟨this, rfl, rfl⟩
  · exact ⟨rfl, rfl, rfl⟩
theorem R.nm_ok {ρ : Env} {k : Nat} {r : R} (h : allV ρ (r.nmc k)) (hr : r.ok ρ) : (r.nm k).ok ρ := by
  obtain ⟨h1, h2, h3⟩ := R.nm_i h
  unfold R.ok
  rw [h1, h2, h3]
  exact hr
theorem E.nm_b {ρ : Env} {k : Nat} {e : E} (h : allV ρ (e.nmc k)) : (e.nm k).b ρ = e.b ρ := by
  unfold E.nm
  unfold E.nmc at h
  split
  · rename_i hb
    rw [if_pos hb] at h
    have := VC.holds_nil (h _ (.head _))
    simp only [E.b] at this
    simp only [E.b]
    cases h1 : ρ.bv (nmNo e) <;> simp_all
  · rfl
mutual
def SV.nm (k : Nat) : SV → SV
  | .int j r => .int j (r.nm k)
  | .bool e => .bool (e.nm (k + k))
  | .err r => .err (r.nm k)
  | .agg l => .agg (SV.nmL k l)
  | .tup l => .tup (SV.nmL k l)
  | .ifc t v => .ifc t (v.nm k)
  | v => v
def SV.nmL (k : Nat) : List SV → List SV
  | [] => []
  | a :: l => a.nm k :: SV.nmL k l
end
mutual
def SV.nmc (k : Nat) : SV → List VC
  | .int _ r => r.nmc k
  | .bool e => e.nmc (k + k)
  | .err r => r.nmc k
  | .agg l => SV.nmcL k l
  | .tup l => SV.nmcL k l
  | .ifc _ v => v.nmc k
  | _ => []
def SV.nmcL (k : Nat) : List SV → List VC
  | [] => []
  | a :: l => a.nmc k ++ SV.nmcL k l
end
mutual
theorem SV.nm_ok {ρ : Env} {k : Nat} (b : Bd) {N : Nat → Prop} : (v : SV) → allV ρ (v.nmc k) → v.ok ρ N → (v.nm k).den ρ b = v.den ρ b ∧ (v.nm k).ok ρ N
  | .int j r, h, hr => ⟨by simp only [SV.nm, SV.den, (R.nm_i h).1], R.nm_ok h hr⟩
  | .bool e, h, _ => ⟨by simp only [SV.nm, SV.den, E.nm_b h], trivial⟩
  | .err r, h, hr => ⟨by simp only [SV.nm, SV.den, (R.nm_i h).1], R.nm_ok h hr⟩
  | .agg l, h, hr => by
    have := SV.nmL_ok b l h hr
    exact ⟨by simp only [SV.nm, SV.den, this.1], this.2⟩
  | .tup l, h, hr => by
    have := SV.nmL_ok b l h hr
    exact ⟨by simp only [SV.nm, SV.den, this.1], this.2⟩
  | .ifc t v, h, hr => by
    have := SV.nm_ok b v h hr
    exact ⟨by simp only [SV.nm, SV.den, this.1], this.2⟩
  | .nilp, _, h => ⟨rfl, h⟩
  | .ptr _ _, _, h => ⟨rfl, h⟩
  | .nils, _, h => ⟨rfl, h⟩
  | .sl _ _ _ _, _, h => ⟨rfl, h⟩
  | .slv _ _ _, _, h => ⟨rfl, h⟩
  | .emp _, _, h => ⟨rfl, h⟩
  | .osl _ _ _, _, h => ⟨rfl, h⟩
  | .optr _ _ _ _, _, h => ⟨rfl, h⟩
  | .esl _ _, _, h => ⟨rfl, h⟩
  | .nili, _, h => ⟨rfl, h⟩
  | .nilf, _, h => ⟨rfl, h⟩
  | .fn _ _, _, h => ⟨rfl, h⟩
  | .con _, _, h => ⟨rfl, h⟩
theorem SV.nmL_ok {ρ : Env} {k : Nat} (b : Bd) {N : Nat → Prop} : (l : List SV) → allV ρ (SV.nmcL k l) → SV.okL ρ N l → SV.denL ρ b (SV.nmL k l) = SV.denL ρ b l ∧ SV.okL ρ N (SV.nmL k l)
  | [], _, _ => ⟨rfl, trivial⟩
  | a :: l, hv, h => by
    rw [SV.nmcL, allV_app] at hv
    have h1 := SV.nm_ok b a hv.1 h.1
    have h2 := SV.nmL_ok b l hv.2 h.2
    exact ⟨by simp only [SV.nmL, SV.denL, h1.1, h2.1], h1.2, h2.2⟩
end
theorem allV_flat {ρ : Env} {α : Type} {f : α → List VC} {l : List α} (h : allV ρ (l.flatMap f)) {x : α} (hx : x ∈ l) : allV ρ (f x) :=
  fun v hv => h v (List.mem_flatMap.2 ⟨x, hx, hv⟩)
theorem find_mapM {α : Type} (f : α → α) {L : List (Nat × α)} {n : Nat} {e : α} (h : find (L.map fun x => (x.1, f x.2)) n = some e) : ∃ e', find L n = some e' ∧ (n, e') ∈ L ∧ e = f e' := by
  rw [find_map f] at h
  rw [Option.map_eq_some_iff] at h
  obtain ⟨e', h1, rfl⟩ := h
  exact ⟨e', h1, find_mem h1, rfl⟩
def heapNm (k : Nat) (H : List (Nat × HEnt)) : List (Nat × HEnt) := H.map fun x => (x.1, { x.2 with blk := { x.2.blk with cells := SV.nmL k x.2.blk.cells } })
def heapNmc (k : Nat) (H : List (Nat × HEnt)) : List VC := H.flatMap fun x => SV.nmcL k x.2.blk.cells
theorem HRel.nm {ρ : Env} {k : Nat} {b : Bd} {base : Nat → Prop} {w : World} {H : List (Nat × HEnt)} {N : Nat → Prop} (hv : allV ρ (heapNmc k H)) (h : HRel ρ b base w H N) : HRel ρ b base w (heapNm k H) N where
  mem := fun n e hf hg => by
    obtain ⟨e', hf', hm, rfl⟩ := find_mapM (fun x : HEnt => { x with blk := { x.blk with cells := SV.nmL k x.blk.cells } }) hf
    obtain ⟨h1, h2, h3⟩ := h.mem n e' hf' hg
    have := SV.nmL_ok b _ (allV_flat hv hm) h3
    exact ⟨h1, h2.cells this.1, this.2⟩
  inj := fun n m e j hf hk hg hgk ho hok heq => by
    obtain ⟨e', hf', hm, rfl⟩ := find_mapM (fun x : HEnt => { x with blk := { x.blk with cells := SV.nmL k x.blk.cells } }) hf
    obtain ⟨k', hk', hm', rfl⟩ := find_mapM (fun x : HEnt => { x with blk := { x.blk with cells := SV.nmL k x.blk.cells } }) hk
    exact h.inj n m e' k' hf' hk' hg hgk ho hok heq
def St.nm (k : Nat) (S : St) : St := { S with tmps := S.tmps.map fun x => (x.1, { x.2 with sv := x.2.sv.nm k }), heap := heapNm k S.heap }
def St.nmc (k : Nat) (S : St) : List VC := (S.tmps.flatMap fun x => x.2.sv.nmc k) ++ heapNmc k S.heap
theorem Rel.nm {ρ : Env} {k : Nat} {b : Bd} {base : Nat → Prop} {w0 w : World} {S : St} {tm : Array Value} (hv : allV ρ (S.nmc k)) (h : Rel ρ b base w0 w S tm) : Rel ρ b base w0 w (S.nm k) tm := by
  rw [St.nmc, allV_app] at hv
  refine ⟨h.heap.nm hv.2, fun i e hf => ?_, h.below, h.base, h.nt, h.kept⟩
  obtain ⟨e', hf', hm, rfl⟩ := find_mapM (fun x : Ent => { x with sv := x.sv.nm k }) hf
  obtain ⟨h1, h2⟩ := h.tmps i e' hf'
  refine ⟨fun hg => ?_, h2⟩
  obtain ⟨h3, h4⟩ := h1 hg
  have := SV.nm_ok b _ (allV_flat hv.1 hm) h4
  exact ⟨by rw [this.1]; exact h3, this.2⟩
def force {α : Type} (n : Nat) (k : Nat → α) : α := match n with
  | 0 => k 0
  | m + 1 => k (m + 1)
theorem force_eq {α : Type} (n : Nat) (k : Nat → α) : force n k = k n := by cases n <;> rfl
def forceI {α : Type} (z : Int) (k : Int → α) : α := match z with
  | .ofNat n => force n fun n => k (.ofNat n)
  | .negSucc n => force n fun n => k (.negSucc n)
theorem forceI_eq {α : Type} (z : Int) (k : Int → α) : forceI z k = k z := by cases z <;> simp [forceI, force_eq]
def forceE {α : Type} (e : E) (k : E → α) : α := match e with
  | .v n => force n fun n => k (.v n)
  | .bv n => force n fun n => k (.bv n)
  | .c z => forceI z fun z => k (.c z)
  | .bc true => k (.bc true)
  | .bc false => k (.bc false)
  | .un o a => k (.un o a)
  | .bin o a b => k (.bin o a b)
  | .ite d a b => k (.ite d a b)
  | .ap f a => k (.ap f a)
  | .nil => k .nil
  | .cons a b => k (.cons a b)
theorem forceE_eq {α : Type} (e : E) (k : E → α) : forceE e k = k e := by
  unfold forceE
  split <;> simp [force_eq, forceI_eq]
def R.nmF {β : Type} (k : Nat) (r : R) (c : R → List VC → β) : β := match r with
  | ⟨e, lo, hi⟩ => forceE e fun e => forceI lo fun lo => forceI hi fun hi => match e.big k with
    | true => force (nmNo e) fun n => c ⟨.v n, lo, hi⟩ [⟨[], .bin .eq (.v n) e⟩]
    | false => c ⟨e, lo, hi⟩ []
theorem R.nmF_eq {β : Type} (k : Nat) (r : R) (c : R → List VC → β) : r.nmF k c = c (r.nm k) (r.nmc k) := by
  obtain ⟨e, lo, hi⟩ := r
  simp only [R.nmF, R.nm, R.nmc, forceE_eq, forceI_eq, force_eq]
  cases h : e.big k <;> simp
def E.nmF {β : Type} (k : Nat) (e : E) (c : E → List VC → β) : β := forceE e fun e => match e.big k with
  | true => force (nmNo e) fun n => c (.bv n) [⟨[], .ite (.bv n) e (.un .not e)⟩]
  | false => c e []
theorem E.nmF_eq {β : Type} (k : Nat) (e : E) (c : E → List VC → β) : e.nmF k c = c (e.nm k) (e.nmc k) := by
  simp only [E.nmF, E.nm, E.nmc, forceE_eq, force_eq]
  cases h : e.big k <;> simp
def forceO {α : Type} (o : Option Nat) (k : Option Nat → α) : α := match o with
  | some n => force n fun n => k (some n)
  | none => k none
theorem forceO_eq {α : Type} (o : Option Nat) (k : Option Nat → α) : forceO o k = k o := by cases o <;> simp [forceO, force_eq]
mutual
def SV.nmF {β : Type} (k : Nat) : SV → (SV → List VC → β) → β
  | .int j r, c => r.nmF k fun r v => c (.int j r) v
  | .bool e, c => e.nmF (k + k) fun e v => c (.bool e) v
  | .err r, c => r.nmF k fun r v => c (.err r) v
  | .agg l, c => SV.nmFL k l fun l v => c (.agg l) v
  | .tup l, c => SV.nmFL k l fun l v => c (.tup l) v
  | .ifc t x, c => x.nmF k fun x v => c (.ifc t x) v
  | .ptr n o, c => force n fun n => force o fun o => c (.ptr n o) []
  | .sl n o l p, c => force n fun n => force o fun o => force l fun l => forceO p fun p => c (.sl n o l p) []
  | .slv n o l, c => c (.slv n o l) []
  | .emp k, c => c (.emp k) []
  | .osl n s l, c => c (.osl n s l) []
  | .optr n s i o, c => force o fun o => c (.optr n s i o) []
  | .esl n i, c => c (.esl n i) []
  | .nilp, c => c .nilp []
  | .nils, c => c .nils []
  | .nili, c => c .nili []
  | .nilf, c => c .nilf []
  | .fn f l, c => c (.fn f l) []
  | .con x, c => c (.con x) []
def SV.nmFL {β : Type} (k : Nat) : List SV → (List SV → List VC → β) → β
  | [], c => c [] []
  | a :: l, c => a.nmF k fun a v => SV.nmFL k l fun l w => c (a :: l) (v ++ w)
end
mutual
theorem SV.nmF_eq {β : Type} (k : Nat) : (x : SV) → (c : SV → List VC → β) → x.nmF k c = c (x.nm k) (x.nmc k)
  | .int j r, c => by simp only [SV.nmF, R.nmF_eq, SV.nm, SV.nmc]
  | .bool e, c => by simp only [SV.nmF, E.nmF_eq, SV.nm, SV.nmc]
  | .err r, c => by simp only [SV.nmF, R.nmF_eq, SV.nm, SV.nmc]
  | .agg l, c => by simp only [SV.nmF, SV.nmFL_eq k l, SV.nm, SV.nmc]
  | .tup l, c => by simp only [SV.nmF, SV.nmFL_eq k l, SV.nm, SV.nmc]
  | .ifc t x, c => by simp only [SV.nmF, SV.nmF_eq k x, SV.nm, SV.nmc]
  | .ptr n o, c => by simp only [SV.nmF, force_eq]; rfl
  | .sl n o l p, c => by simp only [SV.nmF, force_eq, forceO_eq]; rfl
  | .slv _ _ _, c => rfl
  | .emp _, c => rfl
  | .osl _ _ _, c => rfl
  | .optr _ _ _ o, c => by simp only [SV.nmF, force_eq]; rfl
  | .esl _ _, c => rfl
  | .nilp, c => rfl
  | .nils, c => rfl
  | .nili, c => rfl
  | .nilf, c => rfl
  | .fn _ _, c => rfl
  | .con _, c => rfl
theorem SV.nmFL_eq {β : Type} (k : Nat) : (x : List SV) → (c : List SV → List VC → β) → SV.nmFL k x c = c (SV.nmL k x) (SV.nmcL k x)
  | [], c => rfl
  | a :: l, c => by simp only [SV.nmFL, SV.nmF_eq k a, SV.nmFL_eq k l, SV.nmL, SV.nmcL]
end
def tmpsF {β : Type} (k : Nat) : List (Nat × Ent) → (List (Nat × Ent) → List VC → β) → β
  | [], c => c [] []
  | (n, ⟨g, x⟩) :: r, c => force n fun n => x.nmF k fun x v => tmpsF k r fun r w => c ((n, ⟨g, x⟩) :: r) (v ++ w)
theorem tmpsF_eq {β : Type} (k : Nat) : ∀ (l : List (Nat × Ent)) (c : List (Nat × Ent) → List VC → β), tmpsF k l c = c (l.map fun x => (x.1, { x.2 with sv := x.2.sv.nm k })) (l.flatMap fun x => x.2.sv.nmc k) := by
  intro l
  induction l with
  | nil => intro c; rfl
  | cons a l ih =>
    obtain ⟨n, g, x⟩ := a
    intro c
    simp only [tmpsF, force_eq, SV.nmF_eq, ih, List.map_cons, List.flatMap_cons]
def heapF {β : Type} (k : Nat) : List (Nat × HEnt) → (List (Nat × HEnt) → List VC → β) → β
  | [], c => c [] []
  | (n, ⟨g, ⟨cs, t, kd⟩⟩) :: r, c => force n fun n => SV.nmFL k cs fun cs v => heapF k r fun r w => c ((n, ⟨g, ⟨cs, t, kd⟩⟩) :: r) (v ++ w)
theorem heapF_eq {β : Type} (k : Nat) : ∀ (l : List (Nat × HEnt)) (c : List (Nat × HEnt) → List VC → β), heapF k l c = c (heapNm k l) (heapNmc k l) := by
  intro l
  induction l with
  | nil => intro c; rfl
  | cons a l ih =>
    obtain ⟨n, g, cs, t, kd⟩ := a
    intro c
    simp only [heapF, force_eq, SV.nmFL_eq, ih, heapNm, heapNmc, List.map_cons, List.flatMap_cons]
def St.nmF {β : Type} (k : Nat) (S : St) (c : St → List VC → β) : β := match S with
  | ⟨tm, H, nx, nt⟩ => force nx fun nx => force nt fun nt => tmpsF k tm fun tm v => heapF k H fun H w => c ⟨tm, H, nx, nt⟩ (v ++ w)
theorem St.nmF_eq {β : Type} (k : Nat) (S : St) (c : St → List VC → β) : S.nmF k c = c (S.nm k) (S.nmc k) := by
  obtain ⟨tm, H, nx, nt⟩ := S
  simp only [St.nmF, force_eq, tmpsF_eq, heapF_eq]
  rfl

def T.map {α β : Type} (f : α → β) : T α → T β
  | .leaf x => .leaf (f x)
  | .node c t u => .node c (T.map f t) (T.map f u)
theorem T.map_at {α β : Type} (f : α → β) (ρ : Env) (t : T α) : (t.map f).at ρ = f (t.at ρ) := by
  induction t with
  | leaf x => rfl
  | node c t u iht ihu => simp only [T.map, T.at]; split <;> assumption
def T.nmP (big : Nat) : T Lf → T Lf × List VC
  | .leaf l => (.leaf ⟨l.x, l.st.nm big⟩, l.st.nmc big)
  | .node c t u => (.node c (T.nmP big t).1 (T.nmP big u).1, (T.nmP big t).2 ++ (T.nmP big u).2)
def T.nmF {β : Type} (big : Nat) : T Lf → (T Lf → List VC → β) → β
  | .leaf ⟨x, S⟩, c => S.nmF big fun S v => c (.leaf ⟨x, S⟩) v
  | .node d t u, c => T.nmF big t fun t v => T.nmF big u fun u w => c (.node d t u) (v ++ w)
theorem T.nmF_eq {β : Type} (big : Nat) : ∀ (t : T Lf) (c : T Lf → List VC → β), t.nmF big c = c (T.nmP big t).1 (T.nmP big t).2 := by
  intro t
  induction t with
  | leaf l => obtain ⟨x, S⟩ := l; intro c; simp only [T.nmF, St.nmF_eq, T.nmP]
  | node d t u iht ihu => intro c; simp only [T.nmF, iht, ihu, T.nmP]
def T.cnt {α : Type} : T α → Nat
  | .leaf _ => 1
  | .node _ t u => T.cnt t + T.cnt u
def bigK : Nat := 12
def SV.nmS {β : Type} (k : Nat) (x : SV) (c : SV → List VC → β) : β := match x with
  | .int j r => r.nmF k fun r v => c (.int j r) v
  | .bool e => e.nmF (k + k) fun e v => c (.bool e) v
  | .err r => r.nmF k fun r v => c (.err r) v
  | x => c x []
def SV.sc (k : Nat) (x : SV) : SV := match x with
  | .int j r => .int j (r.nm k)
  | .bool e => .bool (e.nm (k + k))
  | .err r => .err (r.nm k)
  | x => x
def SV.scc (k : Nat) (x : SV) : List VC := match x with
  | .int _ r => r.nmc k
  | .bool e => e.nmc (k + k)
  | .err r => r.nmc k
  | _ => []
theorem SV.nmS_eq {β : Type} (k : Nat) (x : SV) (c : SV → List VC → β) : x.nmS k c = c (x.sc k) (x.scc k) := by
  cases x <;> simp only [SV.nmS, SV.sc, SV.scc, R.nmF_eq, E.nmF_eq]
theorem SV.sc_ok {ρ : Env} {k : Nat} (b : Bd) {N : Nat → Prop} {v : SV} (h : allV ρ (v.scc k)) (hr : v.ok ρ N) : (v.sc k).den ρ b = v.den ρ b ∧ (v.sc k).ok ρ N := by
  cases v with
  | int j r => exact ⟨by simp only [SV.sc, SV.den, (R.nm_i h).1], R.nm_ok h hr⟩
  | bool e => exact ⟨by simp only [SV.sc, SV.den, E.nm_b h], trivial⟩
  | err r => exact ⟨by simp only [SV.sc, SV.den, (R.nm_i h).1], R.nm_ok h hr⟩
  | _ => exact ⟨rfl, hr⟩
end Go.Proofs.Ytdfpenjhpemokaa.Sx
