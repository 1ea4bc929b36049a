/-
  word.Gather: the contract.
-/
import Derived.Test.YtdfpenjhpemokaaWgMap
import Derived.Test.YtdfpenjhpemokaaWgB0
import Derived.Sort.OwnSorted
import Derived.Laws.MakeOwn
import Derived.Carry
set_option linter.unusedVariables false
namespace Go.Proofs.Ytdfpenjhpemokaa
open Go.Shelf Go.RowKit Go.Lib Go.Sort Go.Maps
theorem map_below {w w1 : World} {b n : Nat} {D : DataW Value} (h : w.ownsMap Try.prog 244 rdR b n D) (hb : Below w.heap.size w w1) : w1.ownsMap Try.prog 244 rdR b n D := by
  have hl := h.lt
  obtain ⟨es, clock, h1, h2⟩ := h
  exact ⟨es, clock, (hb.block b hl).trans h1, h2⟩
theorem sort_grown {w : World} {g n : Nat} {os : Array Obj} (d : Array Rf) : w.grownBy (sortWorldK rfEnc 4 w g 0 n d os) (some g) := by
  refine ⟨rfl, rfl, rfl, by simp [sortWorldK, putRowK], fun k hk hne => ?_⟩
  show (grow (putRow id (Sort.ahead w n) g 0 (Go.Sort.flatK rfEnc 4 d)) os).heap[k]? = _
  rw [heap_grow_old _ _ (by simpa using hk)]
  have : g ≠ k := fun e => hne (by rw [e])
  simp [putRow, mapBlock, Sort.ahead, Array.getElem?_modify, this]
theorem rows_hold {w : World} {base g cap : Nat} {M : List Rd} {t : TypeId} (h : w.ownsRow base t 4 (.slice (some ⟨g, 0, none⟩) M.length cap) M.length (rdL M)) (hM : ∀ q ∈ M, q.Fine) : HoldsK rfEnc 4 w g 0 (rfOf M hM).toArray := by
  intro j hj
  rw [size_flatK] at hj
  have hl : (rfOf M hM).toArray.size = M.length := by simp [rfOf]
  have hi : j / 4 < M.length := by rw [hl] at hj; omega
  have hr : j % 4 < 4 := Nat.mod_lt _ (by omega)
  rw [get_flatK _ _ _ _ hj, Nat.zero_add]
  refine ⟨?_, h.frozenAt j⟩
  have hq : M[j / 4]? = some M[j / 4] := List.getElem?_eq_getElem hi
  obtain ⟨c0, c1, c2, c3⟩ := rd_cell h hq
  have e : (rfOf M hM).toArray[j / 4]! = ⟨M[j / 4], hM _ (List.getElem_mem hi)⟩ := by
    rw [getElem!_pos _ _ (by rw [hl]; exact hi)]
    simp [rfOf]
  rw [e]
  have hj4 : j = j / 4 * 4 + j % 4 := by omega
  generalize j % 4 = c at *
  match c, hr with
  | 0, _ => exact (congrArg (fun t => w.cell? ⟨g, t, none⟩) (show j = j / 4 * 4 by omega)).trans (c0.trans rfl)
  | 1, _ => exact (congrArg (fun t => w.cell? ⟨g, t, none⟩) (show j = j / 4 * 4 + 1 by omega)).trans (c1.trans rfl)
  | 2, _ => exact (congrArg (fun t => w.cell? ⟨g, t, none⟩) (show j = j / 4 * 4 + 2 by omega)).trans (c2.trans rfl)
  | 3, _ => exact (congrArg (fun t => w.cell? ⟨g, t, none⟩) (show j = j / 4 * 4 + 3 by omega)).trans (c3.trans rfl)
theorem rows_sorted {w : World} {base g cap n : Nat} {M L : List Rd} {t : TypeId} {os : Array Obj} (h : w.ownsRow base t 4 (.slice (some ⟨g, 0, none⟩) M.length cap) M.length (rdL M)) (hM : ∀ q ∈ M, q.Fine) {d' : Array Rf} (hs : d'.size = M.length) (hL : d'.toList.map (·.1) = L) : RdRow (sortWorldK rfEnc 4 w g 0 n d' os) (.slice (some ⟨g, 0, none⟩) M.length cap) L := by
  have hH := rows_hold h hM
  have hg : g < w.heap.size := (h.lt g rfl).2
  have hl : L.length = M.length := by rw [← hL]; simpa using hs
  have h2 : HoldsK rfEnc 4 (sortWorldK rfEnc 4 w g 0 n d' os) g 0 d' := SWK.holds ⟨n, os, rfl⟩ hg hH (by rw [hs]; simp [rfOf])
  refine ⟨_, cap, by rw [hl], fun k r hk => ⟨g, 0, rfl, Nat.lt_of_lt_of_le hg (sort_grown d').size, ?_⟩⟩
  have hk' : k < d'.size := by rw [hs, ← hl]; exact (List.getElem?_eq_some_iff.1 hk).1
  have e : (d'[k]!).1 = r := by
    rw [getElem!_pos d' k hk']
    rw [← hL, List.getElem?_map, Array.getElem?_toList, Array.getElem?_eq_getElem hk'] at hk
    simpa using hk
  have hc := HoldsK.cells h2 (fun _ => rfl) hk'
  have e0 := hc 0 _ rfl
  have e1 := hc 1 _ rfl
  have e2 := hc 2 _ rfl
  have e3 := hc 3 _ rfl
  rw [rd_add] at e0 e1 e2 e3
  rw [e] at e0 e1 e2 e3
  exact ⟨e0, e1, e2, e3⟩
set_option maxRecDepth 100000 in
set_option maxHeartbeats 1000000 in
theorem gatherLong (A : Option Addr) (c n : Nat) (w : World) (hn : 64 < n) (hn2 : n ≤ 9223372036854775807) :
    Calls Try.prog 118 #[.slice A n c] w fun e w' => e = .returned (.tuple #[.slice none 0 0, .int .i64 0, errV 2]) ∧ Below w.heap.size w w' := by
  go_enter Try.func118, Try.ntmps118
  go_wp2_with fail
  refine bodyPost_ret (v := .tuple #[.slice none 0 0, .int .i64 0, errV 2]) ?_ rfl ⟨rfl, by (repeat' (first | (with_reducible exact Below.refl _ _) | (with_reducible assumption) | (with_reducible refine Below.alloc ?_ ?_ _) | (with_reducible refine Below.drew ?_) | (with_reducible refine below_drewN ?_ _) | (with_reducible refine Below.setCell ?_ ?_ _) | (with_reducible refine Below.trans ?_ (Below.mono (by assumption) ?_)) | omega | (simp; omega) | (simp; done)))⟩
  simp [results, Try.results118, go_sem, errV]
theorem unpackRd (x : Nat) (w : World) (hx : x < 4294967296) (ho : podd x = true) : Calls Try.prog 33 #[.int .u32 x] w fun e w' => e = .returned (.tuple #[.agg #[.int .i64 (rdOf x).l, .int .i64 (rdOf x).s, .int .i64 (rdOf x).st, .int .i64 (rdOf x).d], .nilIface]) ∧ Below w.heap.size w w' :=
  wordUnpack_ok x _ _ _ _ w hx (fun _ => ho) (fun _ => rfl) (fun _ => rfl) (fun _ => rfl) (fun _ => rfl)
theorem unpackBad (x : Nat) (w : World) (hx : x < 4294967296) (ho : podd x = false) : Calls Try.prog 33 #[.int .u32 x] w fun e w' => e = .returned (.tuple #[.agg #[.int .i64 0, .int .i64 0, .int .i64 0, .int .i64 0], .iface 23 (.int .i64 3)]) ∧ Below w.heap.size w w' :=
  wordUnpack_bad x w hx (fun _ => ho)
set_option maxRecDepth 100000 in
set_option maxHeartbeats 2000000 in
theorem wordGather (A : Option Addr) (c n : Nat) (f : Nat → Nat) (w : World) (hn : n ≤ 64) (h : WdCells w A n f) :
    Calls Try.prog 118 #[.slice A n c] w fun e w' => (∃ v, e = .returned (.tuple #[v, .int .i64 (gbad f n), .nilIface]) ∧ RdRow w' v (gath f n)) ∧ Below w.heap.size w w' := by
  have HW := Lib.hid h
  have HS := Lib.hid (gath_sorted f)
  have HFi := Lib.hid (gath_fine f)
  have HLn := Lib.hid (gath_len f)
  have HBn := Lib.hid (gbad_le f)
  clear h
  obtain ⟨i0, hif, hza, hzb, hzc⟩ := info_parts infoRd
  have hmm := @run_makeMap Try.prog
  go_enter Try.func118, Try.ntmps118
  go_wp2_with fail
  go_loopw [5, 21] (fun bd i wr => ∃ (k : Nat) (D : DataW Value), k ≤ n ∧ i = .int .i64 k ∧ bd = .int .i64 (gbad f k) ∧ wr.ownsMap Try.prog 244 rdR w.heap.size k D ∧ Hid (MapIs D (gath f k)) ∧ Below w.heap.size w wr) (fun _ i _ => n - (intOf i).toNat)
  case atStart => exact ⟨0, .map [], Nat.zero_le _, rfl, rfl, World.ownsMap_made _ _ _ _, MapIs.start, by (repeat' (first | (with_reducible exact Below.refl _ _) | (with_reducible assumption) | (with_reducible refine Below.alloc ?_ ?_ _) | (with_reducible refine Below.drew ?_) | (with_reducible refine below_drewN ?_ _) | (with_reducible refine Below.setCell ?_ ?_ _) | (with_reducible refine Below.trans ?_ (Below.mono (by assumption) ?_)) | omega | (simp; omega) | (simp; done)))⟩
  case round =>
    obtain ⟨k, D, hkn, rfl, rfl, hown, hmi, hbw⟩ := hrel
    have hsz := hbw.size
    have hwb := hown.lt
    by_cases hlt : k < n
    · obtain ⟨hx, b, off, rfl, hbl, c0⟩ := HW.out k hlt
      have e0 := (hbw.cell (p := ⟨b, off + k, none⟩) hbl).trans c0
      clear c0
      have hbl2 : b < wr.heap.size := by omega
      have hGB := HBn.out k
      cases ho : podd (f k)
      · have G1 : Hid (gath f (k + 1) = gath f k) := if_neg (by rw [ho]; decide)
        have G2 : Hid (gbad f (k + 1) = gbad f k + 1) := if_neg (by rw [ho]; decide)
        have HU := Lib.hid fun w => unpackBad (f k) w hx ho
        generalize gbad f k = bd at *
        generalize gath f k = L at *
        generalize f k = x at *
        have hwbd : IntKind.wrap .i64 ((bd : Int) + 1) = (bd : Int) + 1 := IntWalk.i64_in _ ⟨by omega, by omega⟩
        go_wp2_with (first | (go_at_call 33; ((with_reducible refine (HU.out _).mono ?_); rintro e w5 ⟨rfl, hb5⟩; have hz5 := hb5.size)) | fail)
        go_roundw
        case rel => exact ⟨k + 1, D, by omega, by go_num, by rw [G2.out]; go_num, ((map_below hown hb5).alloc _).mono (Nat.le_succ _), by rw [G1.out]; exact hmi.out, by (repeat' (first | (with_reducible exact Below.refl _ _) | (with_reducible assumption) | (with_reducible refine Below.alloc ?_ ?_ _) | (with_reducible refine Below.drew ?_) | (with_reducible refine below_drewN ?_ _) | (with_reducible refine Below.setCell ?_ ?_ _) | (with_reducible refine Below.trans ?_ (Below.mono (by assumption) ?_)) | omega | (simp; omega) | (simp; done)))⟩
        case measure => simp [intOf]; omega
      · have G1 : Hid (gath f (k + 1) = rins (rdOf (f k)) (gath f k)) := if_pos ho
        have G2 : Hid (gbad f (k + 1) = gbad f k) := if_pos ho
        have HU := Lib.hid fun w => unpackRd (f k) w hx ho
        have hRf := Lib.hid (rdOf_fine (f k))
        have hLf := Lib.hid (HFi.out k)
        have hLs := Lib.hid (HS.out k)
        generalize gbad f k = bd at *
        generalize gath f k = L at *
        generalize f k = x at *
        generalize rdOf x = r at *
        have hkey := key_of hRf.out
        go_wp2_with (first | (go_at_call 33; ((with_reducible refine (HU.out _).mono ?_); rintro e w5 ⟨rfl, hb5⟩; have hz5 := hb5.size)) | (at_mapUpdate; go_loud (refine wpList_mapUpdate_own _ rfl (.tmp 34) (.tmp 39) (.tmp 40) 243 rfl 244 27 wgLaw Try.underlying243 rdR w.heap.size k D rfl ((map_below hown hb5).alloc _) (by unfold maxLen; omega) (.agg #[.int .i64 r.l, .int .i64 r.s]) (.agg #[.int .i64 r.l, .int .i64 r.s, .int .i64 r.st, .int .i64 r.d]) (klR r) rfl rfl hkey (.held r.val) [] rfl ?_); intro w8 own8 grow8) | fail)
        go_roundw
        case rel => exact ⟨k + 1, D.put (klR r) (.held r.val), by omega, by go_num, by rw [G2.out], own8, by rw [G1.out]; exact hmi.out.put hLs.out hLf.out hRf.out, Below.grown (by (repeat' (first | (with_reducible exact Below.refl _ _) | (with_reducible assumption) | (with_reducible refine Below.alloc ?_ ?_ _) | (with_reducible refine Below.drew ?_) | (with_reducible refine below_drewN ?_ _) | (with_reducible refine Below.setCell ?_ ?_ _) | (with_reducible refine Below.trans ?_ (Below.mono (by assumption) ?_)) | omega | (simp; omega) | (simp; done)))) grow8 (by simp; omega) (fun q hq => by cases hq; omega)⟩
        case measure => simp [intOf]; omega
    · have hkn : k = n := by omega
      subst hkn
      have hsd := hown.size_le
      have hlen := fun ty => hown.len Try.underlying243 ty
      have hLf := Lib.hid (HFi.out k)
      have hLs := Lib.hid (HS.out k)
      obtain ⟨wm, hmk, hrowm, hgm⟩ := run_make_own (P := Try.prog) wr (w.heap.size + 1) 184 27 i0 (.agg #[.int .i64 0, .int .i64 0, .int .i64 0, .int .i64 0]) 4 Try.underlying184 hif hza hzb .i64 .i64 (Maps.size D) (by rw [hzc]; omega) (by unfold maxLen; omega) (by omega)
      have hownm := hown.kept hgm (by simp)
      have HBm : Below w.heap.size w wm := Below.grown hbw hgm hsz (fun q h => nomatch h)
      have hsm := hgm.size
      go_wp2_with (first | (at_range; go_loud (refine wpList_range_own _ rfl (.tmp 45) 243 rfl 244 27 wgLaw Try.underlying243 rdR w.heap.size k D rfl hownm ?_); intro w0 hrg0 hg0 hs0) | fail)
      clear hlen hmk
      (try go_frame)
      obtain ⟨rI, hrI⟩ : ∃ r, wm.heap.size = r := ⟨_, rfl⟩
      rw [hrI] at hrg0 ⊢
      obtain ⟨wo, rfl⟩ : ∃ x : World, x = wr := ⟨_, rfl⟩
      go_loopw [11] (fun v wq => ∃ (left : Lit → Bool) (cnt : Nat) (M : List Rd), wq.ranges Try.prog 244 rdR w.heap.size rI k D left cnt ∧ Hid (RgIs (gath f k) left M) ∧ wq.ownsRow (w.heap.size + 1) 27 4 v M.length (rdL M) ∧ v ≠ .slice none 0 0 ∧ M.length + cnt ≤ 64 ∧ Below w.heap.size w wq) (fun _ wq => wq.rangeLeft w.heap.size rI)
      case atStart => exact ⟨_, _, [], hrg0, RgIs.start hmi.out, hrowm.kept hg0 (.inr (by simp [Value.ownBlock])), by simp, by show 0 + Maps.size D ≤ 64; omega, Below.grown HBm hg0 (by omega) (fun q h => nomatch h)⟩
      case round =>
        obtain ⟨left, cnt, M, hrg, hRg, hown2, hnn, hcnt, hbq⟩ := hrel
        have hni := row_ne_iter hown2 hrg
        have hnl := row_ne_low hown2 (Nat.lt_succ_self w.heap.size)
        have hsq := hbq.size
        go_wp2_with (first | (at_next; go_loud (refine wpList_next_ranges _ rfl (.tmp 46) rfl 244 wgLaw rdR id id (fun key kl h => ⟨key, rfl⟩) (fun v y h => ⟨v, rfl⟩) w.heap.size rI k D left cnt rfl hrg ?_ ?_)) | fail)
        · intro hc0 hl0
          have hM : ∀ q, q ∈ M ↔ q ∈ gath f k := fun q => by rw [hRg.out.1 q, hl0]; simp
          have hMf : ∀ q ∈ M, q.Fine := fun q h => hLf.out q ((hM q).1 h)
          rcases rd_shape hown2 with ⟨h0, _⟩ | ⟨g, cap, rfl, hcap, hgb, hgw⟩
          · exact absurd h0 hnn
          · have hH := rows_hold hown2 hMf
            have hd : (rfOf M hMf).toArray.size = M.length := by simp [rfOf]
            have hc := Lib.hid (gatherSort g cap (rfOf M hMf).toArray wr hH hgw (by rw [hd]; omega))
            rw [hd] at hc
            clear hH
            go_wp2_with (first | (go_at_call 169; go_loud ((with_reducible refine hc.out.mono ?_); rintro e w7 ⟨rfl, d', nn, os, hp, hso, rfl⟩)) | fail)
            have hsd' : d'.size = M.length := by rw [hp.1, hd]
            refine bodyPost_ret (v := .tuple #[.slice (some ⟨g, 0, none⟩) M.length cap, .int .i64 (gbad f k), .nilIface]) ?_ rfl ⟨⟨_, rfl, rows_sorted hown2 hMf hsd' (sorted_is hLs.out hM hRg.out.2 hMf d' (by rw [hd]; exact hp) (by rw [hd]; exact hso))⟩, Below.grown hbq (sort_grown d') hsq (fun q h => by cases h; omega)⟩
            simp [results, Try.results118, go_sem]
        · intro x c' kl y1 y2 w1 cnt1 hkx hlx hRc hat hrg1 hlt hg1 hs1 hen
          obtain ⟨rfl, rfl⟩ := Prod.mk.inj (Option.some.inj (show some ((DataW.held c', []) : DataW Value × List MemPlace) = some (y1, y2) from hRc))
          obtain ⟨q, hqL, hq, hRg1⟩ := hRg.out.step hmi.out hLs.out hLf.out hlx hat
          subst hq
          have hRg2 := Lib.hid hRg1
          have hen' : (Instr.entry (.pointer (some ⟨rI, 0, none⟩))).run Try.prog w1 = .ok (.tuple #[x, .agg #[.int .i64 q.l, .int .i64 q.s, .int .i64 q.st, .int .i64 q.d]]) w1 := hen
          have hown3 := hown2.kept hg1 (.inr hni.symm)
          have hb1 : Below w.heap.size w w1 := Below.grown hbq hg1 hsq (fun q h => by cases h; omega)
          clear hRg1 hen hat hkx
          go_wp2_with (first | (at_builtin; go_loud (refine wpList_append_own _ rfl (.tmp 51) (.tmp 53) 184 rfl (w.heap.size + 1) 27 i0 (.agg #[.int .i64 0, .int .i64 0, .int .i64 0, .int .i64 0]) 4 32 Try.underlying184 hif hza hzb hzc rfl (by decide) u11 M.length (rdL M) rfl ((hown3.alloc _).alloc _) ⟨_, 0, none⟩ 1 1 [.int .i64 q.l, .int .i64 q.s, .int .i64 q.st, .int .i64 q.d] rfl rfl ?c1 ?c2 ?c3 ?c4 ?c5 ?_)) | fail)
          case c1 =>
            intro jj u hu
            match jj, hu with
            | 0, hu => simp at hu; subst hu; simp [Addr.add]; exact cell_new (by simp [hs1]) rfl
            | 1, hu => simp at hu; subst hu; simp [Addr.add]; exact cell_new (by simp [hs1]) rfl
            | 2, hu => simp at hu; subst hu; simp [Addr.add]; exact cell_new (by simp [hs1]) rfl
            | 3, hu => simp at hu; subst hu; simp [Addr.add]; exact cell_new (by simp [hs1]) rfl
          case c2 => intro u hu; simp at hu; rcases hu with rfl | rfl | rfl | rfl <;> rfl
          case c3 => unfold maxLen; omega
          case c4 => omega
          case c5 => simp; omega
          intro v' w9 own9 grow9 hv9
          have hrg9 := ((hrg1.alloc _).alloc _).kept grow9 hnl hni
          have hB9 : Below w.heap.size w w9 := Below.grown (by (repeat' (first | (with_reducible exact Below.refl _ _) | (with_reducible assumption) | (with_reducible refine Below.alloc ?_ ?_ _) | (with_reducible refine Below.drew ?_) | (with_reducible refine below_drewN ?_ _) | (with_reducible refine Below.setCell ?_ ?_ _) | (with_reducible refine Below.trans ?_ (Below.mono (by assumption) ?_)) | omega | (simp; omega) | (simp; done)))) grow9 (by simp; omega) (fun q h => by have := (hown2.lt q h).1; omega)
          clear grow9 hown3 hen'
          go_wp2
          go_roundw
          case rel => exact ⟨_, cnt1, M ++ [q], hrg9, hRg2.out, by rw [List.length_append, rdL_snoc]; exact own9, by first | exact hv9 | exact fun h => hnn (hv9.1 h).1, by rw [List.length_append]; show M.length + 1 + cnt1 ≤ 64; omega, hB9⟩
          case measure => rw [hrg9.left_eq, hrg.left_eq]; omega
end Go.Proofs.Ytdfpenjhpemokaa
