/-
  R.Over: what it answers.
-/
import Derived.Test.YtdfpenjhpemokaaOverRun
set_option linter.unusedVariables false
set_option linter.unusedSimpArgs false
namespace Go.Proofs.Ytdfpenjhpemokaa.Sx
open Go.RowKit
structure RovB (g d : GD) (lo hi : Int) (ρ : Env) : Prop where
  std : Std ovFn ovFb (ltwo g d) ρ
  l4 : ρ.iv 4 = g.n
  l6 : ρ.iv 6 = d.n
  e20 : ρ.iv 20 = lo
  e21 : ρ.iv 21 = hi
theorem RovB.same {g d : GD} {lo hi : Int} {ρ ρ' : Env} (h : RovB g d lo hi ρ) (hs : Same ρ ρ' [] []) : RovB g d lo hi ρ' := ⟨h.std.same hs, (iv_same hs (n := 4) rfl).trans h.l4, (iv_same hs (n := 6) rfl).trans h.l6, (iv_same hs (n := 20) rfl).trans h.e20, (iv_same hs (n := 21) rfl).trans h.e21⟩
structure RovI (g d : GD) (lo hi : Int) (ρ : Env) : Prop where
  b : RovB g d lo hi ρ
  low : 0 ≤ ρ.iv 13
  high : ρ.iv 13 ≤ g.n
  e14 : ρ.iv 14 = (povr (fun x => plook g.f d.f g.n x) g.f d.f lo hi (ρ.iv 13).toNat).1
  e15 : ρ.iv 15 = (povr (fun x => plook g.f d.f g.n x) g.f d.f lo hi (ρ.iv 13).toNat).2
structure RovI2 (g d : GD) (lo hi : Int) (ρ : Env) : Prop where
  i : RovI g d lo hi ρ
  e14 : ρ.iv 14 = (povr (fun x => plook g.f d.f g.n x) g.f d.f lo hi g.n).1
  e15 : ρ.iv 15 = (povr (fun x => plook g.f d.f g.n x) g.f d.f lo hi g.n).2
theorem RovI.same {g d : GD} {lo hi : Int} {ρ ρ' : Env} (h : RovI g d lo hi ρ) (hs : Same ρ ρ' [] []) : RovI g d lo hi ρ' ∧ (g.n - ρ'.iv 13).toNat = (g.n - ρ.iv 13).toNat := by
  have e := iv_same hs (n := 13) rfl
  have e4 := iv_same hs (n := 14) rfl
  have e5 := iv_same hs (n := 15) rfl
  exact ⟨⟨h.b.same hs, by rw [e]; exact h.low, by rw [e]; exact h.high, by rw [e, e4]; exact h.e14, by rw [e, e5]; exact h.e15⟩, by rw [e]⟩
theorem rov_start {g d : GD} {w : World} (o : g.ok w) (o' : d.ok w) (hk : g.ks = [true]) (hk' : d.ks = [true]) (hn : g.n ≤ 1000) (hn' : d.n ≤ 1000) (lo hi : Int) (b : Bd) : ∃ ρ, RovB g d lo hi ρ ∧ Mem ρ (· < w.heap.size) w ∧ ((SV.osl 0 [.int .i64 (-9223372036854775808) 9223372036854775807] ⟨.v 4, 0, 1000⟩).ok ρ (· < 0) ∧ (SV.osl 0 [.int .i64 (-9223372036854775808) 9223372036854775807] ⟨.v 4, 0, 1000⟩).den ρ b = .slice g.A g.n g.c) ∧ (SV.osl 1 [.int .i64 (-9223372036854775808) 9223372036854775807] ⟨.v 6, 0, 1000⟩).ok ρ (· < 0) ∧ (SV.osl 1 [.int .i64 (-9223372036854775808) 9223372036854775807] ⟨.v 6, 0, 1000⟩).den ρ b = .slice d.A d.n d.c := by
  obtain ⟨ρ, h⟩ := Jm.start ovFn ovFb (ltwo g d) (fun n => match n with | 4 => (g.n : Int) | 6 => d.n | 20 => lo | 21 => hi | _ => 0) (fun _ => false)
  have hG := ltwo_ok o o'
  have hks := ltwo_ks hk hk'
  exact ⟨ρ, ⟨h.std, h.at_ 4 rfl, h.at_ 6 rfl, h.at_ 20 rfl, h.at_ 21 rfl⟩, h.mem hG, h.std.osl hG (k := 0) (by rw [hks]; rfl) (by rw [hks]; decide) (e := .v 4) (show ρ.iv 4 = ((ltwo g d 0).n : Int) from h.at_ 4 rfl) (Int.le_refl _) (Int.natCast_nonneg _) (by show (g.n : Int) ≤ 1000; omega) (· < 0) b, h.std.osl hG (k := 1) (by rw [hks]; rfl) (by rw [hks]; decide) (e := .v 6) (show ρ.iv 6 = ((ltwo g d 1).n : Int) from h.at_ 6 rfl) (Int.le_refl _) (Int.natCast_nonneg _) (by show (d.n : Int) ≤ 1000; omega) (· < 0) b⟩
set_option maxRecDepth 100000 in
set_option maxHeartbeats 1000000 in
theorem refOver0 (g d : GD) (hk : g.ks = [true]) (hk' : d.ks = [true]) (hn : g.n ≤ 1000) (hn' : d.n ≤ 1000) (lo hi : Int) (b0 : B64 lo) (b1 : B64 hi) (h3 : pover3 g d lo hi = 0) (w : World) (o : g.ok w) (o' : d.ok w) :
    Calls Try.prog 96 #[.agg #[.slice g.A g.n g.c, .slice d.A d.n d.c], .agg #[.int .i64 lo, .int .i64 hi]] w fun e w' => e = .returned (.agg #[.int .i64 (poverL g d lo hi), .int .i64 (poverH g d lo hi)]) ∧ Below w.heap.size w w' := by
  obtain ⟨hp, hs⟩ := pover_parts h3
  obtain ⟨hnn, n2, n8, wf, rf, wg⟩ := pline_parts hp
  have hbd := fun k => fun h => povr_bd (L := fun x => plook g.f d.f g.n x) (f := g.f) (g := d.f) (lo := lo) (hi := hi) (fun x => plook_bd hp x) k h
  obtain ⟨ρ0, h0, hm, ⟨s1, s2⟩, s3, s4⟩ := rov_start o o' hk hk' hn hn' lo hi ⟨fun _ => 0, fun _ => 0, fun _ => 0⟩
  have key := loop1_ret (P := Try.prog) (cfg := cfgK rOSum rOKeeps 50 12) Try.func96 rfl (k := 4) (i := 0) (n := 7) (by decide +kernel) (by kernel_rfl) (args := rOArgs) (H := []) (nx := 0) rO_ran0 rO_defs0 rO_no0 rO_ran1 rO_defs1 rO_no1 rO_ran2 rO_defs2 rO_no2 (V := .agg #[.int .i64 (poverL g d lo hi), .int .i64 (poverH g d lo hi)]) (RovB g d lo hi) (RovI g d lo hi) (RovI2 g d lo hi) (fun ρ => (g.n - ρ.iv 13).toNat)
    (fun ρ h => ⟨h.std.et, rO_sum h.std (ltwo_ok o o') (ltwo_ks hk hk')⟩) (fun ρ h => ⟨h.b.std.et, rO_sum h.b.std (ltwo_ok o o') (ltwo_ks hk hk')⟩) (fun ρ ρ' h hs => h.same hs) (fun ρ ρ' h hs => h.same hs) (fun ρ h => h.i) (fun ρ ρ' h hs => ⟨(h.i.same hs).1, by rw [iv_same hs (n := 14) rfl]; exact h.e14, by rw [iv_same hs (n := 15) rfl]; exact h.e15⟩) (by kernel_rfl)
    (fun ρ h => by
      have h1 := h.l4
      have h2 := h.l6
      have e1 := h.e20
      have e2 := h.e21
      unfold B64 at b0 b1
      refine List.forall_mem_cons.2 ⟨?_, List.forall_mem_cons.2 ⟨?_, List.forall_mem_cons.2 ⟨?_, List.forall_mem_cons.2 ⟨?_, fun _ h => nomatch h⟩⟩⟩⟩
      · exact fit_of (z := ρ.iv 4) rfl (by show (0 : Int) ≤ ρ.iv 4; omega) (by show ρ.iv 4 ≤ 1000; omega)
      · exact fit_of (z := ρ.iv 6) rfl (by show (0 : Int) ≤ ρ.iv 6; omega) (by show ρ.iv 6 ≤ 1000; omega)
      · exact fit_of (z := ρ.iv 20) rfl (by show (-9223372036854775808 : Int) ≤ ρ.iv 20; omega) (by show ρ.iv 20 ≤ 9223372036854775807; omega)
      · exact fit_of (z := ρ.iv 21) rfl (by show (-9223372036854775808 : Int) ≤ ρ.iv 21; omega) (by show ρ.iv 21 ≤ 9223372036854775807; omega))
    (fun ρ h => by
      have h1 := h.b.l4
      have h2 := h.b.l6
      have e1 := h.b.e20
      have e2 := h.b.e21
      have h5 := h.low
      have h6 := h.high
      have h7 := h.e14
      have h8 := h.e15
      have h9 := hbd (ρ.iv 13).toNat (fun j hj => wg j (by omega))
      unfold B64 at b0 b1
      refine List.forall_mem_cons.2 ⟨?_, List.forall_mem_cons.2 ⟨?_, List.forall_mem_cons.2 ⟨?_, List.forall_mem_cons.2 ⟨?_, List.forall_mem_cons.2 ⟨?_, List.forall_mem_cons.2 ⟨?_, List.forall_mem_cons.2 ⟨?_, List.forall_mem_cons.2 ⟨?_, List.forall_mem_cons.2 ⟨?_, fun _ h => nomatch h⟩⟩⟩⟩⟩⟩⟩⟩⟩
      · exact fit_of (z := ρ.iv 13) rfl (by show (0 : Int) ≤ ρ.iv 13; omega) (by show ρ.iv 13 ≤ 1000; omega)
      · exact fit_of (z := ρ.iv 14) rfl (by show (-9223372036854775808 : Int) ≤ ρ.iv 14; omega) (by show ρ.iv 14 ≤ 9223372036854775807; omega)
      · exact fit_of (z := ρ.iv 15) rfl (by show (-9223372036854775808 : Int) ≤ ρ.iv 15; omega) (by show ρ.iv 15 ≤ 9223372036854775807; omega)
      · exact fit_const _ _
      · exact fit_const _ _
      · exact fit_of (z := ρ.iv 20) rfl (by show (-9223372036854775808 : Int) ≤ ρ.iv 20; omega) (by show ρ.iv 20 ≤ 9223372036854775807; omega)
      · exact fit_of (z := ρ.iv 21) rfl (by show (-9223372036854775808 : Int) ≤ ρ.iv 21; omega) (by show ρ.iv 21 ≤ 9223372036854775807; omega)
      · exact fit_of (z := ρ.iv 4) rfl (by show (0 : Int) ≤ ρ.iv 4; omega) (by show ρ.iv 4 ≤ 1000; omega)
      · exact fit_of (z := ρ.iv 6) rfl (by show (0 : Int) ≤ ρ.iv 6; omega) (by show ρ.iv 6 ≤ 1000; omega))
    (fun ρ h hv => Eq.mpr (rO_w0 ρ) (by
      refine ⟨fun _ => decide_eq_true ?_, trivial⟩
      rw [h.std.f rfl]
      exact hp))
    (fun ρ h hv => Eq.mpr (rO_w1 ρ) (by
      have h1 := h.b.l4
      have h2 := h.b.l6
      refine ⟨fun ⟨_, c, _⟩ => ?_, trivial⟩
      have c := of_decide_eq_true c
      exact decide_eq_true (by omega)))
    (fun ρ h hv => Eq.mpr (rO_w2 ρ) (by
      trivial))
    (by
      refine List.forall_mem_cons.2 ⟨?_, fun _ h => nomatch h⟩
      · intro ρ h hv hp
        refine .inr ⟨rfl, rfl, ?_⟩
        obtain ⟨-, y1, y2, -⟩ := Eq.mp (rO_says0 ρ) hv
        have e1 : ρ.fn 64 [0, 1, ρ.iv 20] = plook g.f d.f g.n lo := by rw [h.std.f rfl, h.e20]; rfl
        have e2 : ρ.fn 64 [0, 1, ρ.iv 21] = plook g.f d.f g.n hi := by rw [h.std.f rfl, h.e21]; rfl
        rw [e1, e2] at y1 y2
        exact ⟨⟨h.std.sub _, h.l4, h.l6, h.e20, h.e21⟩, Int.le_refl _, Int.natCast_nonneg _, y1, y2⟩)
    (by
      refine List.forall_mem_cons.2 ⟨?_, List.forall_mem_cons.2 ⟨?_, fun _ h => nomatch h⟩⟩
      · intro ρ h hv hp
        obtain ⟨c0, _⟩ := Eq.mp (rO_1_pc0 ρ) hp
        refine .inl ⟨rfl, rfl, ?_, ?_⟩
        · obtain ⟨-, y1, y2, -⟩ := Eq.mp (rO_says1 ρ) hv
          have c0 := of_decide_eq_true c0
          have h1 := h.b.l4
          have h5 := h.low
          have f1 : ρ.fn 1000 [ρ.iv 13] = g.f (ρ.iv 13).toNat := h.b.std.e (k := 0) (j := 0) rfl _
          have f2 : ρ.fn 1100 [ρ.iv 13] = d.f (ρ.iv 13).toNat := h.b.std.e (k := 1) (j := 0) rfl _
          have ek : (ρ.iv 13 + 1).toNat = (ρ.iv 13).toNat + 1 := by omega
          rw [f1, f2, h.b.e20, h.b.e21] at y1 y2
          refine ⟨⟨h.b.std.sub _, h.b.l4, h.b.l6, h.b.e20, h.b.e21⟩, by show 0 ≤ ρ.iv 13 + 1; omega, by show ρ.iv 13 + 1 ≤ g.n; omega, ?_, ?_⟩
          · show ρ.iv 949351114662470128 = (povr _ _ _ lo hi (ρ.iv 13 + 1).toNat).1
            rw [y1, ek, povr, h.e14]
            by_cases hin : lo ≤ g.f (ρ.iv 13).toNat ∧ g.f (ρ.iv 13).toNat ≤ hi
            · rw [if_pos hin, decide_eq_true hin.1, decide_eq_true hin.2]; rfl
            · rw [if_neg hin]
              by_cases h1 : lo ≤ g.f (ρ.iv 13).toNat
              · rw [decide_eq_false (fun h2 => hin ⟨h1, h2⟩), Bool.and_false]; rfl
              · rw [decide_eq_false h1, Bool.false_and]; rfl
          · show ρ.iv 318800803084205648 = (povr _ _ _ lo hi (ρ.iv 13 + 1).toNat).2
            rw [y2, ek, povr, h.e15]
            by_cases hin : lo ≤ g.f (ρ.iv 13).toNat ∧ g.f (ρ.iv 13).toNat ≤ hi
            · rw [if_pos hin, decide_eq_true hin.1, decide_eq_true hin.2]; rfl
            · rw [if_neg hin]
              by_cases h1 : lo ≤ g.f (ρ.iv 13).toNat
              · rw [decide_eq_false (fun h2 => hin ⟨h1, h2⟩), Bool.and_false]; rfl
              · rw [decide_eq_false h1, Bool.false_and]; rfl
        · have c0 := of_decide_eq_true c0
          have h1 := h.b.l4
          have h5 := h.low
          show (g.n - (ρ.iv 13 + 1)).toNat < (g.n - ρ.iv 13).toNat
          omega
      · intro ρ h hv hp
        obtain ⟨c0, _⟩ := Eq.mp (rO_1_pc1 ρ) hp
        refine .inr (.inl ⟨rfl, rfl, ?_⟩)
        have c0 := of_decide_eq_true c0
        have h1 := h.b.l4
        have h5 := h.low
        have h6 := h.high
        have ek : (ρ.iv 13).toNat = g.n := by omega
        refine ⟨⟨⟨h.b.std.sub _, h.b.l4, h.b.l6, h.b.e20, h.b.e21⟩, h5, h6, h.e14, h.e15⟩, ?_, ?_⟩
        · show ρ.iv 14 = _; rw [h.e14, ek]
        · show ρ.iv 15 = _; rw [h.e15, ek])
    (by
      refine List.forall_mem_cons.2 ⟨?_, fun _ h => nomatch h⟩
      · intro ρ h hv hp
        refine ⟨.inr rfl, List.forall_mem_cons.2 ⟨?_, List.forall_mem_cons.2 ⟨?_, fun _ h => nomatch h⟩⟩, [.agg [.int .i64 ⟨(.v 900), (-9223372036854775808), 9223372036854775807⟩, .int .i64 ⟨(.v 901), (-9223372036854775808), 9223372036854775807⟩]], by kernel_rfl, fun b => ?_⟩
        · have h9 := hbd g.n (fun j hj => wg j (by omega))
          have h7 := h.e14
          exact fit_of (z := ρ.iv 14) rfl (by show (-9223372036854775808 : Int) ≤ ρ.iv 14; omega) (by show ρ.iv 14 ≤ 9223372036854775807; omega)
        · have h9 := hbd g.n (fun j hj => wg j (by omega))
          have h7 := h.e15
          exact fit_of (z := ρ.iv 15) rfl (by show (-9223372036854775808 : Int) ≤ ρ.iv 15; omega) (by show ρ.iv 15 ≤ 9223372036854775807; omega)
        · show Value.agg #[.int .i64 (ρ.iv 14), .int .i64 (ρ.iv 15)] = _
          rw [h.e14, h.e15]
          unfold poverL poverH
          rw [if_pos h3, if_pos h3])
    h0 ⟨fun _ => 0, fun _ => 0, fun _ => 0⟩ w (noHeap _ _ _ _) ⟨⟨s1, s3, trivial⟩, ⟨⟨by show _ ≤ ρ0.iv 20; rw [h0.e20]; exact b0.1, by show ρ0.iv 20 ≤ _; rw [h0.e20]; exact b0.2⟩, ⟨by show _ ≤ ρ0.iv 21; rw [h0.e21]; exact b1.1, by show ρ0.iv 21 ≤ _; rw [h0.e21]; exact b1.2⟩, trivial⟩, trivial⟩ hm
  have e : SV.denL ρ0 ⟨fun _ => 0, fun _ => 0, fun _ => 0⟩ rOArgs = [.agg #[.slice g.A g.n g.c, .slice d.A d.n d.c], .agg #[.int .i64 lo, .int .i64 hi]] := by
    unfold rOArgs
    simp only [SV.denL]
    simp only [den_agg, SV.denL, den_int, E.i, h0.e20, h0.e21]
    rw [s2, s4]
  rw [e] at key
  exact key
end Go.Proofs.Ytdfpenjhpemokaa.Sx
