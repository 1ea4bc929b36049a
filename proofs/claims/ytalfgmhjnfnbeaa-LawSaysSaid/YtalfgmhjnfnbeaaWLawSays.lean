/-
  The law LawSays walked.
-/
import Derived.Test.YtalfgmhjnfnbeaaOpen
import Derived.Test.YtalfgmhjnfnbeaaLaw2
import Derived.Deep.RegionHeld3
namespace Go.Proofs.Ytalfgmhjnfnbeaa
open Go.RowKit

theorem lawNext_le (now wanted : Int) (w : World) (a1 : 0 ≤ now) (a2 : now ≤ 3) (a3 : 0 ≤ wanted) (a4 : wanted ≤ 3) (h : now < wanted) : Calls Try.prog 45 #[.int .i64 now, .int .i64 wanted, .bool false] w fun e w' =>
    e = .returned (.tuple #[.int .i64 wanted, errV 0]) ∧ w = w' := by
  have := lawNext_f now wanted w a1 a2 a3 a4
  rwa [show max now wanted = wanted by omega] at this
theorem lawNext_gt (now wanted : Int) (w : World) (a1 : 0 ≤ now) (a2 : now ≤ 3) (a3 : 0 ≤ wanted) (a4 : wanted ≤ 3) (h : wanted ≤ now) : Calls Try.prog 45 #[.int .i64 now, .int .i64 wanted, .bool false] w fun e w' =>
    e = .returned (.tuple #[.int .i64 now, errV 0]) ∧ w = w' := by
  have := lawNext_f now wanted w a1 a2 a3 a4
  rwa [show max now wanted = now by omega] at this

set_option maxHeartbeats 1000000 in
theorem LawSays_slice (b off c n : Nat) (ch so su : Nat → Int) (now wanted : Int) (ground : Bool) (w : World) (hn : n ≤ 20) (hc : HealthCells w b off n ch so su) :
    Calls Try.prog 9 #[.slice (some ⟨b, off, none⟩) n c, .int .i64 now, .int .i64 wanted, .bool ground] w fun e w' => e = .returned (.bool true) ∧ Below w.heap.size w w' := by
  have HC := Lib.hid hc
  have hbl := hc.1
  clear hc
  go_enter Try.func9, Try.ntmps9
  go_wp2
  go_loopw [9, 10, 11] (fun e m i wr => ∃ k : Nat, k ≤ n ∧ i = .int .i64 k ∧ e = .int .i64 (pscan ch so su k).1 ∧ m = .int .i64 (pscan ch so su k).2 ∧ Below w.heap.size w wr) (fun _ _ i _ => n - (intOf i).toNat)
  case atStart => exact ⟨0, Nat.zero_le _, rfl, rfl, rfl, Below.refl _ _⟩
  case round =>
    obtain ⟨k, hk, rfl, rfl, rfl, hbw⟩ := hrel
    have hlw : b < wr.heap.size := Nat.lt_of_lt_of_le hbl hbw.size
    have hsz := hbw.size
    have hbd := pscan_bd ch so su k
    by_cases hlt : k < n
    · have hcc := (HC.out.below hbw).2 k hlt
      obtain ⟨c1, c2, c3⟩ := hcc
      have hpf := pfirst2 (pscan ch so su k).1 (phealth (ch k) (so k) (su k))
      have hp1 : por (pscan ch so su k).1 (phealth (ch k) (so k) (su k)) = (pscan ch so su (k + 1)).1 := rfl
      have hp2 : Hid ((pscan ch so su (k + 1)).2 = if (pscan ch so su (k + 1)).1 = 0 then max (pscan ch so su k).2 (plawof (ch k) (so k) (su k)) else (pscan ch so su k).2) := rfl
      have hld := plawof_bd (ch k) (so k) (su k)
      rw [hp1] at hpf
      have hh : Hid ((pscan ch so su (k + 1)).1 = 0 → phealth (ch k) (so k) (su k) = 0) := by
        intro h
        rw [← hp1] at h
        unfold por at h
        split at h
        · exact h
        · contradiction
      clear hp1
      have hfin := pscan_bd ch so su (k + 1)
      generalize hE1 : (pscan ch so su (k + 1)).1 = e1 at *
      generalize hM1 : (pscan ch so su (k + 1)).2 = m1 at *
      have HE1 := Lib.hid hE1
      have HM1 := Lib.hid hM1
      clear hE1 hM1
      generalize hm0 : (pscan ch so su k).2 = m0 at *
      generalize hq0 : (pscan ch so su k).1 = e0 at *
      clear hm0 hq0
      by_cases he1 : e1 = 0
      · have hz : (e1 == 0) = true := by simpa using he1
        have hm1 : Hid (m1 = max m0 (plawof (ch k) (so k) (su k))) := by
          have := hp2.out
          rwa [if_pos he1] at this
        have hh' := hh.out he1
        have HH := Lib.hid hh'
        clear hp2 hh hh' he1
        go_wp2_with (first | (go_at_call 41; ((with_reducible refine (refHealthMay _ _ _ _).mono ?_); rintro e w' ⟨rfl, rfl⟩)) | (go_at_call 29; ((with_reducible refine (refFirst _ _ [_, _] 2 _ rfl (by omega) (cells2 _ _ _ _ _ _ (by simp))).mono ?_); rintro e w' ⟨rfl, rfl⟩)))
        go_region_held3 (fun w' => w'.cell? ⟨b, off + k * 3, none⟩ = some (.int .i64 (ch k)) ∧ w'.cell? ⟨b, off + k * 3 + 1, none⟩ = some (.int .i64 (so k)) ∧ w'.cell? ⟨b, off + k * 3 + 2, none⟩ = some (.int .i64 (su k))) (first | (refine ⟨?_, ?_, ?_⟩ <;> (repeat' (first | assumption | (with_reducible refine cell_alloc_keep ?_) | (with_reducible refine cell_drew_keep ?_) | (with_reducible refine cell_drewN_keep ?_))) <;> done) | go_keep)
          (first | (go_at_call 42; refine (lawCheck _ _ _ _).mono ?_; rintro e w' ⟨rfl, rfl⟩) | (go_at_call 41; refine (refHealthMay _ _ _ _).mono ?_; rintro e w' ⟨rfl, rfl⟩) | (go_at_call 21; refine (refIs _ _ _).mono ?_; rintro e w' ⟨rfl, rfl⟩))
        go_wp2_with (first | (go_at_call 43; ((with_reducible refine (refLawOf _ _ _ _ HH.out).mono ?_); rintro e w' ⟨rfl, rfl⟩)))
        all_goals
          go_roundw
          case rel => exact ⟨k + 1, by omega, by go_num, by rw [HE1.out], by rw [HM1.out, hm1.out]; go_num, by (repeat' (first | (with_reducible exact Below.refl _ _) | (with_reducible assumption) | (with_reducible refine Below.alloc ?_ ?_ _) | (with_reducible refine Below.drew ?_) | (with_reducible refine below_drewN ?_ _) | (with_reducible refine Below.setCell ?_ ?_ _) | (with_reducible refine Below.trans ?_ (Below.mono (by assumption) ?_)) | omega | (simp only [World.size_alloc]; omega) | (simp; omega) | (simp; done)))⟩
          case measure => simp [intOf]; omega
      · have hz : (e1 == 0) = false := by simpa using he1
        have hm1 : Hid (m1 = m0) := by
          have := hp2.out
          rwa [if_neg he1] at this
        clear hp2 hh he1
        go_wp2_with (first | (go_at_call 41; ((with_reducible refine (refHealthMay _ _ _ _).mono ?_); rintro e w' ⟨rfl, rfl⟩)) | (go_at_call 29; ((with_reducible refine (refFirst _ _ [_, _] 2 _ rfl (by omega) (cells2 _ _ _ _ _ _ (by simp))).mono ?_); rintro e w' ⟨rfl, rfl⟩)))
        go_region_held3 (fun w' => w'.cell? ⟨b, off + k * 3, none⟩ = some (.int .i64 (ch k)) ∧ w'.cell? ⟨b, off + k * 3 + 1, none⟩ = some (.int .i64 (so k)) ∧ w'.cell? ⟨b, off + k * 3 + 2, none⟩ = some (.int .i64 (su k))) (first | (refine ⟨?_, ?_, ?_⟩ <;> (repeat' (first | assumption | (with_reducible refine cell_alloc_keep ?_) | (with_reducible refine cell_drew_keep ?_) | (with_reducible refine cell_drewN_keep ?_))) <;> done) | go_keep)
          (first | (go_at_call 42; refine (lawCheck _ _ _ _).mono ?_; rintro e w' ⟨rfl, rfl⟩) | (go_at_call 41; refine (refHealthMay _ _ _ _).mono ?_; rintro e w' ⟨rfl, rfl⟩) | (go_at_call 21; refine (refIs _ _ _).mono ?_; rintro e w' ⟨rfl, rfl⟩))
        go_wp2
        go_roundw
        case rel => exact ⟨k + 1, by omega, by go_num, by rw [HE1.out], by rw [HM1.out, hm1.out], by (repeat' (first | (with_reducible exact Below.refl _ _) | (with_reducible assumption) | (with_reducible refine Below.alloc ?_ ?_ _) | (with_reducible refine Below.drew ?_) | (with_reducible refine below_drewN ?_ _) | (with_reducible refine Below.setCell ?_ ?_ _) | (with_reducible refine Below.trans ?_ (Below.mono (by assumption) ?_)) | omega | (simp only [World.size_alloc]; omega) | (simp; omega) | (simp; done)))⟩
        case measure => simp [intOf]; omega
    · obtain rfl : k = n := by omega
      generalize hm0 : (pscan ch so su k).2 = m0 at *
      generalize hq0 : (pscan ch so su k).1 = e0 at *
      have HM0 := Lib.hid hm0
      have HQ0 := Lib.hid hq0
      have HQS := Lib.hid hq0.symm
      clear hm0 hq0
      by_cases he0 : e0 = 0
      · have hz : (e0 != 0) = false := by simpa using he0
        have HR : Hid (m0 = if (pscan ch so su k).1 = 0 then (pscan ch so su k).2 else 0) := by
          unfold Hid
          rw [HQ0.out, HM0.out, if_pos he0]
        clear he0
        by_cases g1 : 0 ≤ now ∧ now ≤ 3
        · obtain ⟨g1a, g1b⟩ := g1
          by_cases g2 : 0 ≤ wanted ∧ wanted ≤ 3
          · obtain ⟨g2a, g2b⟩ := g2
            cases ground
            · by_cases g3 : now < wanted
              · go_wp2_with (first | (go_at_call 44; ((with_reducible refine (lawWanted b off c k ch so su _ (by omega) (HC.out.below hbw) m0 e0 HR HQS).mono ?_); rintro e w7 ⟨rfl, hb7⟩; have hz7 := hb7.size; (try simp only [World.size_alloc] at hz7); have hB7 : Below w.heap.size w w7 := by (repeat' (first | (with_reducible exact Below.refl _ _) | (with_reducible assumption) | (with_reducible refine Below.alloc ?_ ?_ _) | (with_reducible refine Below.drew ?_) | (with_reducible refine below_drewN ?_ _) | (with_reducible refine Below.setCell ?_ ?_ _) | (with_reducible refine Below.trans ?_ (Below.mono (by assumption) ?_)) | omega | (simp only [World.size_alloc]; omega) | (simp; omega) | (simp; done)))); (try have hq7 := fun o : Nat => hb7.cell (p := ⟨w.heap.size, o, none⟩) (by first | omega | (simp; omega))); (try have hqa7 := fun o : Nat => hb7.cell (p := ⟨w.heap.size + 1, o, none⟩) (by first | omega | (simp; omega))); (try have hy7 : w.heap.size < w7.heap.size := by omega); (try have hya7 : w.heap.size + 1 < w7.heap.size := by omega); clear hb7) | (go_at_call 30; ((with_reducible refine (refBetween_t _ 0 3 _ (by omega) (by omega)).mono ?_); rintro e w' ⟨rfl, rfl⟩)) | (go_at_call 45; ((with_reducible refine (lawNext_le _ _ _ (by omega) (by omega) (by omega) (by omega) (by omega)).mono ?_); rintro e w' ⟨rfl, rfl⟩)) | (go_at_call 17; ((with_reducible refine (refWhen _ _ _).mono ?_); rintro e w' ⟨rfl, rfl⟩)) | (go_at_call 21; ((with_reducible refine (refIs _ _ _).mono ?_); rintro e w' ⟨rfl, rfl⟩)) | (go_at_call 46; ((with_reducible refine (lawGuarded _ _).mono ?_); rintro e w' ⟨rfl, rfl⟩)) | (go_at_call 30; ((with_reducible refine (refBetween _ 0 1 _).mono ?_); rintro e w' ⟨rfl, rfl⟩)))
                all_goals (go_ret; exact ⟨rfl, by (repeat' (first | (with_reducible exact Below.refl _ _) | (with_reducible assumption) | (with_reducible refine Below.alloc ?_ ?_ _) | (with_reducible refine Below.drew ?_) | (with_reducible refine below_drewN ?_ _) | (with_reducible refine Below.setCell ?_ ?_ _) | (with_reducible refine Below.trans ?_ (Below.mono (by assumption) ?_)) | omega | (simp only [World.size_alloc]; omega) | (simp; omega) | (simp; done)))⟩)
              · have g3' : wanted ≤ now := by omega
                clear g3
                go_wp2_with (first | (go_at_call 44; ((with_reducible refine (lawWanted b off c k ch so su _ (by omega) (HC.out.below hbw) m0 e0 HR HQS).mono ?_); rintro e w7 ⟨rfl, hb7⟩; have hz7 := hb7.size; (try simp only [World.size_alloc] at hz7); have hB7 : Below w.heap.size w w7 := by (repeat' (first | (with_reducible exact Below.refl _ _) | (with_reducible assumption) | (with_reducible refine Below.alloc ?_ ?_ _) | (with_reducible refine Below.drew ?_) | (with_reducible refine below_drewN ?_ _) | (with_reducible refine Below.setCell ?_ ?_ _) | (with_reducible refine Below.trans ?_ (Below.mono (by assumption) ?_)) | omega | (simp only [World.size_alloc]; omega) | (simp; omega) | (simp; done)))); (try have hq7 := fun o : Nat => hb7.cell (p := ⟨w.heap.size, o, none⟩) (by first | omega | (simp; omega))); (try have hqa7 := fun o : Nat => hb7.cell (p := ⟨w.heap.size + 1, o, none⟩) (by first | omega | (simp; omega))); (try have hy7 : w.heap.size < w7.heap.size := by omega); (try have hya7 : w.heap.size + 1 < w7.heap.size := by omega); clear hb7) | (go_at_call 30; ((with_reducible refine (refBetween_t _ 0 3 _ (by omega) (by omega)).mono ?_); rintro e w' ⟨rfl, rfl⟩)) | (go_at_call 45; ((with_reducible refine (lawNext_gt _ _ _ (by omega) (by omega) (by omega) (by omega) (by omega)).mono ?_); rintro e w' ⟨rfl, rfl⟩)) | (go_at_call 17; ((with_reducible refine (refWhen _ _ _).mono ?_); rintro e w' ⟨rfl, rfl⟩)) | (go_at_call 21; ((with_reducible refine (refIs _ _ _).mono ?_); rintro e w' ⟨rfl, rfl⟩)) | (go_at_call 46; ((with_reducible refine (lawGuarded _ _).mono ?_); rintro e w' ⟨rfl, rfl⟩)) | (go_at_call 30; ((with_reducible refine (refBetween _ 0 1 _).mono ?_); rintro e w' ⟨rfl, rfl⟩)))
                all_goals (go_ret; exact ⟨rfl, by (repeat' (first | (with_reducible exact Below.refl _ _) | (with_reducible assumption) | (with_reducible refine Below.alloc ?_ ?_ _) | (with_reducible refine Below.drew ?_) | (with_reducible refine below_drewN ?_ _) | (with_reducible refine Below.setCell ?_ ?_ _) | (with_reducible refine Below.trans ?_ (Below.mono (by assumption) ?_)) | omega | (simp only [World.size_alloc]; omega) | (simp; omega) | (simp; done)))⟩)
            · go_wp2_with (first | (go_at_call 44; ((with_reducible refine (lawWanted b off c k ch so su _ (by omega) (HC.out.below hbw) m0 e0 HR HQS).mono ?_); rintro e w7 ⟨rfl, hb7⟩; have hz7 := hb7.size; (try simp only [World.size_alloc] at hz7); have hB7 : Below w.heap.size w w7 := by (repeat' (first | (with_reducible exact Below.refl _ _) | (with_reducible assumption) | (with_reducible refine Below.alloc ?_ ?_ _) | (with_reducible refine Below.drew ?_) | (with_reducible refine below_drewN ?_ _) | (with_reducible refine Below.setCell ?_ ?_ _) | (with_reducible refine Below.trans ?_ (Below.mono (by assumption) ?_)) | omega | (simp only [World.size_alloc]; omega) | (simp; omega) | (simp; done)))); (try have hq7 := fun o : Nat => hb7.cell (p := ⟨w.heap.size, o, none⟩) (by first | omega | (simp; omega))); (try have hqa7 := fun o : Nat => hb7.cell (p := ⟨w.heap.size + 1, o, none⟩) (by first | omega | (simp; omega))); (try have hy7 : w.heap.size < w7.heap.size := by omega); (try have hya7 : w.heap.size + 1 < w7.heap.size := by omega); clear hb7) | (go_at_call 30; ((with_reducible refine (refBetween_t _ 0 3 _ (by omega) (by omega)).mono ?_); rintro e w' ⟨rfl, rfl⟩)) | (go_at_call 45; ((with_reducible refine (lawNext_t _ _ _ (by omega) (by omega) (by omega) (by omega)).mono ?_); rintro e w' ⟨rfl, rfl⟩)) | (go_at_call 17; ((with_reducible refine (refWhen _ _ _).mono ?_); rintro e w' ⟨rfl, rfl⟩)) | (go_at_call 21; ((with_reducible refine (refIs _ _ _).mono ?_); rintro e w' ⟨rfl, rfl⟩)) | (go_at_call 46; ((with_reducible refine (lawGuarded _ _).mono ?_); rintro e w' ⟨rfl, rfl⟩)) | (go_at_call 30; ((with_reducible refine (refBetween _ 0 1 _).mono ?_); rintro e w' ⟨rfl, rfl⟩)))
              all_goals (go_ret; exact ⟨rfl, by (repeat' (first | (with_reducible exact Below.refl _ _) | (with_reducible assumption) | (with_reducible refine Below.alloc ?_ ?_ _) | (with_reducible refine Below.drew ?_) | (with_reducible refine below_drewN ?_ _) | (with_reducible refine Below.setCell ?_ ?_ _) | (with_reducible refine Below.trans ?_ (Below.mono (by assumption) ?_)) | omega | (simp only [World.size_alloc]; omega) | (simp; omega) | (simp; done)))⟩)
          · have G2 := Lib.hid g2
            have B2 := Lib.hid (show ¬(0 ≤ now ∧ now ≤ 3 ∧ 0 ≤ wanted ∧ wanted ≤ 3) from fun h => g2 h.2.2)
            clear g2
            go_wp2_with (first | (go_at_call 44; ((with_reducible refine (lawWanted b off c k ch so su _ (by omega) (HC.out.below hbw) m0 e0 HR HQS).mono ?_); rintro e w7 ⟨rfl, hb7⟩; have hz7 := hb7.size; (try simp only [World.size_alloc] at hz7); have hB7 : Below w.heap.size w w7 := by (repeat' (first | (with_reducible exact Below.refl _ _) | (with_reducible assumption) | (with_reducible refine Below.alloc ?_ ?_ _) | (with_reducible refine Below.drew ?_) | (with_reducible refine below_drewN ?_ _) | (with_reducible refine Below.setCell ?_ ?_ _) | (with_reducible refine Below.trans ?_ (Below.mono (by assumption) ?_)) | omega | (simp only [World.size_alloc]; omega) | (simp; omega) | (simp; done)))); (try have hq7 := fun o : Nat => hb7.cell (p := ⟨w.heap.size, o, none⟩) (by first | omega | (simp; omega))); (try have hqa7 := fun o : Nat => hb7.cell (p := ⟨w.heap.size + 1, o, none⟩) (by first | omega | (simp; omega))); (try have hy7 : w.heap.size < w7.heap.size := by omega); (try have hya7 : w.heap.size + 1 < w7.heap.size := by omega); clear hb7) | (go_at_call 30; ((with_reducible refine (refBetween_t _ 0 3 _ (by omega) (by omega)).mono ?_); rintro e w' ⟨rfl, rfl⟩)) | (go_at_call 30; ((with_reducible refine (refBetween_f wanted 0 3 _ G2.out).mono ?_); rintro e w' ⟨rfl, rfl⟩)) | (go_at_call 45; ((with_reducible refine (lawNext_bad _ _ _ _ B2.out).mono ?_); rintro e w' ⟨rfl, rfl⟩)) | (go_at_call 17; ((with_reducible refine (refWhen _ _ _).mono ?_); rintro e w' ⟨rfl, rfl⟩)) | (go_at_call 21; ((with_reducible refine (refIs _ _ _).mono ?_); rintro e w' ⟨rfl, rfl⟩)) | (go_at_call 46; ((with_reducible refine (lawGuarded _ _).mono ?_); rintro e w' ⟨rfl, rfl⟩)) | (go_at_call 30; ((with_reducible refine (refBetween _ 0 1 _).mono ?_); rintro e w' ⟨rfl, rfl⟩)))
            all_goals (go_ret; exact ⟨rfl, by (repeat' (first | (with_reducible exact Below.refl _ _) | (with_reducible assumption) | (with_reducible refine Below.alloc ?_ ?_ _) | (with_reducible refine Below.drew ?_) | (with_reducible refine below_drewN ?_ _) | (with_reducible refine Below.setCell ?_ ?_ _) | (with_reducible refine Below.trans ?_ (Below.mono (by assumption) ?_)) | omega | (simp only [World.size_alloc]; omega) | (simp; omega) | (simp; done)))⟩)
        · have G1 := Lib.hid g1
          have B2 := Lib.hid (show ¬(0 ≤ now ∧ now ≤ 3 ∧ 0 ≤ wanted ∧ wanted ≤ 3) from fun h => g1 ⟨h.1, h.2.1⟩)
          clear g1
          go_wp2_with (first | (go_at_call 44; ((with_reducible refine (lawWanted b off c k ch so su _ (by omega) (HC.out.below hbw) m0 e0 HR HQS).mono ?_); rintro e w7 ⟨rfl, hb7⟩; have hz7 := hb7.size; (try simp only [World.size_alloc] at hz7); have hB7 : Below w.heap.size w w7 := by (repeat' (first | (with_reducible exact Below.refl _ _) | (with_reducible assumption) | (with_reducible refine Below.alloc ?_ ?_ _) | (with_reducible refine Below.drew ?_) | (with_reducible refine below_drewN ?_ _) | (with_reducible refine Below.setCell ?_ ?_ _) | (with_reducible refine Below.trans ?_ (Below.mono (by assumption) ?_)) | omega | (simp only [World.size_alloc]; omega) | (simp; omega) | (simp; done)))); (try have hq7 := fun o : Nat => hb7.cell (p := ⟨w.heap.size, o, none⟩) (by first | omega | (simp; omega))); (try have hqa7 := fun o : Nat => hb7.cell (p := ⟨w.heap.size + 1, o, none⟩) (by first | omega | (simp; omega))); (try have hy7 : w.heap.size < w7.heap.size := by omega); (try have hya7 : w.heap.size + 1 < w7.heap.size := by omega); clear hb7) | (go_at_call 30; ((with_reducible refine (refBetween_f now 0 3 _ G1.out).mono ?_); rintro e w' ⟨rfl, rfl⟩)) | (go_at_call 45; ((with_reducible refine (lawNext_bad _ _ _ _ B2.out).mono ?_); rintro e w' ⟨rfl, rfl⟩)) | (go_at_call 17; ((with_reducible refine (refWhen _ _ _).mono ?_); rintro e w' ⟨rfl, rfl⟩)) | (go_at_call 21; ((with_reducible refine (refIs _ _ _).mono ?_); rintro e w' ⟨rfl, rfl⟩)) | (go_at_call 46; ((with_reducible refine (lawGuarded _ _).mono ?_); rintro e w' ⟨rfl, rfl⟩)) | (go_at_call 30; ((with_reducible refine (refBetween _ 0 1 _).mono ?_); rintro e w' ⟨rfl, rfl⟩)))
          all_goals (go_ret; exact ⟨rfl, by (repeat' (first | (with_reducible exact Below.refl _ _) | (with_reducible assumption) | (with_reducible refine Below.alloc ?_ ?_ _) | (with_reducible refine Below.drew ?_) | (with_reducible refine below_drewN ?_ _) | (with_reducible refine Below.setCell ?_ ?_ _) | (with_reducible refine Below.trans ?_ (Below.mono (by assumption) ?_)) | omega | (simp only [World.size_alloc]; omega) | (simp; omega) | (simp; done)))⟩)
      · have hz : (e0 != 0) = true := by simpa using he0
        have HR : Hid ((0 : Int) = if (pscan ch so su k).1 = 0 then (pscan ch so su k).2 else 0) := by
          unfold Hid
          rw [HQ0.out, HM0.out, if_neg he0]
        clear he0
        by_cases g1 : 0 ≤ now ∧ now ≤ 3
        · obtain ⟨g1a, g1b⟩ := g1
          by_cases g2 : 0 ≤ wanted ∧ wanted ≤ 3
          · obtain ⟨g2a, g2b⟩ := g2
            cases ground
            · by_cases g3 : now < wanted
              · go_wp2_with (first | (go_at_call 44; ((with_reducible refine (lawWanted b off c k ch so su _ (by omega) (HC.out.below hbw) 0 e0 HR HQS).mono ?_); rintro e w7 ⟨rfl, hb7⟩; have hz7 := hb7.size; (try simp only [World.size_alloc] at hz7); have hB7 : Below w.heap.size w w7 := by (repeat' (first | (with_reducible exact Below.refl _ _) | (with_reducible assumption) | (with_reducible refine Below.alloc ?_ ?_ _) | (with_reducible refine Below.drew ?_) | (with_reducible refine below_drewN ?_ _) | (with_reducible refine Below.setCell ?_ ?_ _) | (with_reducible refine Below.trans ?_ (Below.mono (by assumption) ?_)) | omega | (simp only [World.size_alloc]; omega) | (simp; omega) | (simp; done)))); (try have hq7 := fun o : Nat => hb7.cell (p := ⟨w.heap.size, o, none⟩) (by first | omega | (simp; omega))); (try have hqa7 := fun o : Nat => hb7.cell (p := ⟨w.heap.size + 1, o, none⟩) (by first | omega | (simp; omega))); (try have hy7 : w.heap.size < w7.heap.size := by omega); (try have hya7 : w.heap.size + 1 < w7.heap.size := by omega); clear hb7) | (go_at_call 30; ((with_reducible refine (refBetween_t _ 0 3 _ (by omega) (by omega)).mono ?_); rintro e w' ⟨rfl, rfl⟩)) | (go_at_call 45; ((with_reducible refine (lawNext_le _ _ _ (by omega) (by omega) (by omega) (by omega) (by omega)).mono ?_); rintro e w' ⟨rfl, rfl⟩)) | (go_at_call 17; ((with_reducible refine (refWhen _ _ _).mono ?_); rintro e w' ⟨rfl, rfl⟩)) | (go_at_call 21; ((with_reducible refine (refIs _ _ _).mono ?_); rintro e w' ⟨rfl, rfl⟩)) | (go_at_call 46; ((with_reducible refine (lawGuarded _ _).mono ?_); rintro e w' ⟨rfl, rfl⟩)) | (go_at_call 30; ((with_reducible refine (refBetween _ 0 1 _).mono ?_); rintro e w' ⟨rfl, rfl⟩)))
                all_goals (go_ret; exact ⟨rfl, by (repeat' (first | (with_reducible exact Below.refl _ _) | (with_reducible assumption) | (with_reducible refine Below.alloc ?_ ?_ _) | (with_reducible refine Below.drew ?_) | (with_reducible refine below_drewN ?_ _) | (with_reducible refine Below.setCell ?_ ?_ _) | (with_reducible refine Below.trans ?_ (Below.mono (by assumption) ?_)) | omega | (simp only [World.size_alloc]; omega) | (simp; omega) | (simp; done)))⟩)
              · have g3' : wanted ≤ now := by omega
                clear g3
                go_wp2_with (first | (go_at_call 44; ((with_reducible refine (lawWanted b off c k ch so su _ (by omega) (HC.out.below hbw) 0 e0 HR HQS).mono ?_); rintro e w7 ⟨rfl, hb7⟩; have hz7 := hb7.size; (try simp only [World.size_alloc] at hz7); have hB7 : Below w.heap.size w w7 := by (repeat' (first | (with_reducible exact Below.refl _ _) | (with_reducible assumption) | (with_reducible refine Below.alloc ?_ ?_ _) | (with_reducible refine Below.drew ?_) | (with_reducible refine below_drewN ?_ _) | (with_reducible refine Below.setCell ?_ ?_ _) | (with_reducible refine Below.trans ?_ (Below.mono (by assumption) ?_)) | omega | (simp only [World.size_alloc]; omega) | (simp; omega) | (simp; done)))); (try have hq7 := fun o : Nat => hb7.cell (p := ⟨w.heap.size, o, none⟩) (by first | omega | (simp; omega))); (try have hqa7 := fun o : Nat => hb7.cell (p := ⟨w.heap.size + 1, o, none⟩) (by first | omega | (simp; omega))); (try have hy7 : w.heap.size < w7.heap.size := by omega); (try have hya7 : w.heap.size + 1 < w7.heap.size := by omega); clear hb7) | (go_at_call 30; ((with_reducible refine (refBetween_t _ 0 3 _ (by omega) (by omega)).mono ?_); rintro e w' ⟨rfl, rfl⟩)) | (go_at_call 45; ((with_reducible refine (lawNext_gt _ _ _ (by omega) (by omega) (by omega) (by omega) (by omega)).mono ?_); rintro e w' ⟨rfl, rfl⟩)) | (go_at_call 17; ((with_reducible refine (refWhen _ _ _).mono ?_); rintro e w' ⟨rfl, rfl⟩)) | (go_at_call 21; ((with_reducible refine (refIs _ _ _).mono ?_); rintro e w' ⟨rfl, rfl⟩)) | (go_at_call 46; ((with_reducible refine (lawGuarded _ _).mono ?_); rintro e w' ⟨rfl, rfl⟩)) | (go_at_call 30; ((with_reducible refine (refBetween _ 0 1 _).mono ?_); rintro e w' ⟨rfl, rfl⟩)))
                all_goals (go_ret; exact ⟨rfl, by (repeat' (first | (with_reducible exact Below.refl _ _) | (with_reducible assumption) | (with_reducible refine Below.alloc ?_ ?_ _) | (with_reducible refine Below.drew ?_) | (with_reducible refine below_drewN ?_ _) | (with_reducible refine Below.setCell ?_ ?_ _) | (with_reducible refine Below.trans ?_ (Below.mono (by assumption) ?_)) | omega | (simp only [World.size_alloc]; omega) | (simp; omega) | (simp; done)))⟩)
            · go_wp2_with (first | (go_at_call 44; ((with_reducible refine (lawWanted b off c k ch so su _ (by omega) (HC.out.below hbw) 0 e0 HR HQS).mono ?_); rintro e w7 ⟨rfl, hb7⟩; have hz7 := hb7.size; (try simp only [World.size_alloc] at hz7); have hB7 : Below w.heap.size w w7 := by (repeat' (first | (with_reducible exact Below.refl _ _) | (with_reducible assumption) | (with_reducible refine Below.alloc ?_ ?_ _) | (with_reducible refine Below.drew ?_) | (with_reducible refine below_drewN ?_ _) | (with_reducible refine Below.setCell ?_ ?_ _) | (with_reducible refine Below.trans ?_ (Below.mono (by assumption) ?_)) | omega | (simp only [World.size_alloc]; omega) | (simp; omega) | (simp; done)))); (try have hq7 := fun o : Nat => hb7.cell (p := ⟨w.heap.size, o, none⟩) (by first | omega | (simp; omega))); (try have hqa7 := fun o : Nat => hb7.cell (p := ⟨w.heap.size + 1, o, none⟩) (by first | omega | (simp; omega))); (try have hy7 : w.heap.size < w7.heap.size := by omega); (try have hya7 : w.heap.size + 1 < w7.heap.size := by omega); clear hb7) | (go_at_call 30; ((with_reducible refine (refBetween_t _ 0 3 _ (by omega) (by omega)).mono ?_); rintro e w' ⟨rfl, rfl⟩)) | (go_at_call 45; ((with_reducible refine (lawNext_t _ _ _ (by omega) (by omega) (by omega) (by omega)).mono ?_); rintro e w' ⟨rfl, rfl⟩)) | (go_at_call 17; ((with_reducible refine (refWhen _ _ _).mono ?_); rintro e w' ⟨rfl, rfl⟩)) | (go_at_call 21; ((with_reducible refine (refIs _ _ _).mono ?_); rintro e w' ⟨rfl, rfl⟩)) | (go_at_call 46; ((with_reducible refine (lawGuarded _ _).mono ?_); rintro e w' ⟨rfl, rfl⟩)) | (go_at_call 30; ((with_reducible refine (refBetween _ 0 1 _).mono ?_); rintro e w' ⟨rfl, rfl⟩)))
              all_goals (go_ret; exact ⟨rfl, by (repeat' (first | (with_reducible exact Below.refl _ _) | (with_reducible assumption) | (with_reducible refine Below.alloc ?_ ?_ _) | (with_reducible refine Below.drew ?_) | (with_reducible refine below_drewN ?_ _) | (with_reducible refine Below.setCell ?_ ?_ _) | (with_reducible refine Below.trans ?_ (Below.mono (by assumption) ?_)) | omega | (simp only [World.size_alloc]; omega) | (simp; omega) | (simp; done)))⟩)
          · have G2 := Lib.hid g2
            have B2 := Lib.hid (show ¬(0 ≤ now ∧ now ≤ 3 ∧ 0 ≤ wanted ∧ wanted ≤ 3) from fun h => g2 h.2.2)
            clear g2
            go_wp2_with (first | (go_at_call 44; ((with_reducible refine (lawWanted b off c k ch so su _ (by omega) (HC.out.below hbw) 0 e0 HR HQS).mono ?_); rintro e w7 ⟨rfl, hb7⟩; have hz7 := hb7.size; (try simp only [World.size_alloc] at hz7); have hB7 : Below w.heap.size w w7 := by (repeat' (first | (with_reducible exact Below.refl _ _) | (with_reducible assumption) | (with_reducible refine Below.alloc ?_ ?_ _) | (with_reducible refine Below.drew ?_) | (with_reducible refine below_drewN ?_ _) | (with_reducible refine Below.setCell ?_ ?_ _) | (with_reducible refine Below.trans ?_ (Below.mono (by assumption) ?_)) | omega | (simp only [World.size_alloc]; omega) | (simp; omega) | (simp; done)))); (try have hq7 := fun o : Nat => hb7.cell (p := ⟨w.heap.size, o, none⟩) (by first | omega | (simp; omega))); (try have hqa7 := fun o : Nat => hb7.cell (p := ⟨w.heap.size + 1, o, none⟩) (by first | omega | (simp; omega))); (try have hy7 : w.heap.size < w7.heap.size := by omega); (try have hya7 : w.heap.size + 1 < w7.heap.size := by omega); clear hb7) | (go_at_call 30; ((with_reducible refine (refBetween_t _ 0 3 _ (by omega) (by omega)).mono ?_); rintro e w' ⟨rfl, rfl⟩)) | (go_at_call 30; ((with_reducible refine (refBetween_f wanted 0 3 _ G2.out).mono ?_); rintro e w' ⟨rfl, rfl⟩)) | (go_at_call 45; ((with_reducible refine (lawNext_bad _ _ _ _ B2.out).mono ?_); rintro e w' ⟨rfl, rfl⟩)) | (go_at_call 17; ((with_reducible refine (refWhen _ _ _).mono ?_); rintro e w' ⟨rfl, rfl⟩)) | (go_at_call 21; ((with_reducible refine (refIs _ _ _).mono ?_); rintro e w' ⟨rfl, rfl⟩)) | (go_at_call 46; ((with_reducible refine (lawGuarded _ _).mono ?_); rintro e w' ⟨rfl, rfl⟩)) | (go_at_call 30; ((with_reducible refine (refBetween _ 0 1 _).mono ?_); rintro e w' ⟨rfl, rfl⟩)))
            all_goals (go_ret; exact ⟨rfl, by (repeat' (first | (with_reducible exact Below.refl _ _) | (with_reducible assumption) | (with_reducible refine Below.alloc ?_ ?_ _) | (with_reducible refine Below.drew ?_) | (with_reducible refine below_drewN ?_ _) | (with_reducible refine Below.setCell ?_ ?_ _) | (with_reducible refine Below.trans ?_ (Below.mono (by assumption) ?_)) | omega | (simp only [World.size_alloc]; omega) | (simp; omega) | (simp; done)))⟩)
        · have G1 := Lib.hid g1
          have B2 := Lib.hid (show ¬(0 ≤ now ∧ now ≤ 3 ∧ 0 ≤ wanted ∧ wanted ≤ 3) from fun h => g1 ⟨h.1, h.2.1⟩)
          clear g1
          go_wp2_with (first | (go_at_call 44; ((with_reducible refine (lawWanted b off c k ch so su _ (by omega) (HC.out.below hbw) 0 e0 HR HQS).mono ?_); rintro e w7 ⟨rfl, hb7⟩; have hz7 := hb7.size; (try simp only [World.size_alloc] at hz7); have hB7 : Below w.heap.size w w7 := by (repeat' (first | (with_reducible exact Below.refl _ _) | (with_reducible assumption) | (with_reducible refine Below.alloc ?_ ?_ _) | (with_reducible refine Below.drew ?_) | (with_reducible refine below_drewN ?_ _) | (with_reducible refine Below.setCell ?_ ?_ _) | (with_reducible refine Below.trans ?_ (Below.mono (by assumption) ?_)) | omega | (simp only [World.size_alloc]; omega) | (simp; omega) | (simp; done)))); (try have hq7 := fun o : Nat => hb7.cell (p := ⟨w.heap.size, o, none⟩) (by first | omega | (simp; omega))); (try have hqa7 := fun o : Nat => hb7.cell (p := ⟨w.heap.size + 1, o, none⟩) (by first | omega | (simp; omega))); (try have hy7 : w.heap.size < w7.heap.size := by omega); (try have hya7 : w.heap.size + 1 < w7.heap.size := by omega); clear hb7) | (go_at_call 30; ((with_reducible refine (refBetween_f now 0 3 _ G1.out).mono ?_); rintro e w' ⟨rfl, rfl⟩)) | (go_at_call 45; ((with_reducible refine (lawNext_bad _ _ _ _ B2.out).mono ?_); rintro e w' ⟨rfl, rfl⟩)) | (go_at_call 17; ((with_reducible refine (refWhen _ _ _).mono ?_); rintro e w' ⟨rfl, rfl⟩)) | (go_at_call 21; ((with_reducible refine (refIs _ _ _).mono ?_); rintro e w' ⟨rfl, rfl⟩)) | (go_at_call 46; ((with_reducible refine (lawGuarded _ _).mono ?_); rintro e w' ⟨rfl, rfl⟩)) | (go_at_call 30; ((with_reducible refine (refBetween _ 0 1 _).mono ?_); rintro e w' ⟨rfl, rfl⟩)))
          all_goals (go_ret; exact ⟨rfl, by (repeat' (first | (with_reducible exact Below.refl _ _) | (with_reducible assumption) | (with_reducible refine Below.alloc ?_ ?_ _) | (with_reducible refine Below.drew ?_) | (with_reducible refine below_drewN ?_ _) | (with_reducible refine Below.setCell ?_ ?_ _) | (with_reducible refine Below.trans ?_ (Below.mono (by assumption) ?_)) | omega | (simp only [World.size_alloc]; omega) | (simp; omega) | (simp; done)))⟩)

set_option maxHeartbeats 400000 in
theorem LawSays_nil (A : Option Addr) (c : Nat) (now wanted : Int) (ground : Bool) (w : World) :
    Calls Try.prog 9 #[.slice A 0 c, .int .i64 now, .int .i64 wanted, .bool ground] w fun e w' => e = .returned (.bool true) ∧ Below w.heap.size w w' := by
  by_cases g1 : 0 ≤ now ∧ now ≤ 3
  · obtain ⟨g1a, g1b⟩ := g1
    by_cases g2 : 0 ≤ wanted ∧ wanted ≤ 3
    · obtain ⟨g2a, g2b⟩ := g2
      cases ground
      · by_cases g3 : now < wanted
        · go_enter Try.func9, Try.ntmps9
          go_wp2_with fail
          refine wp_loop_rounds 1 ?_
          rw [rounds_succ]
          go_wp2_with (first | (go_at_call 44; ((with_reducible refine (lawWanted_nil _ _ _).mono ?_); rintro e w' ⟨rfl, rfl⟩)) | (go_at_call 30; ((with_reducible refine (refBetween_t _ 0 3 _ (by omega) (by omega)).mono ?_); rintro e w' ⟨rfl, rfl⟩)) | (go_at_call 45; ((with_reducible refine (lawNext_le _ _ _ (by omega) (by omega) (by omega) (by omega) (by omega)).mono ?_); rintro e w' ⟨rfl, rfl⟩)) | (go_at_call 17; ((with_reducible refine (refWhen _ _ _).mono ?_); rintro e w' ⟨rfl, rfl⟩)) | (go_at_call 21; ((with_reducible refine (refIs _ _ _).mono ?_); rintro e w' ⟨rfl, rfl⟩)) | (go_at_call 46; ((with_reducible refine (lawGuarded _ _).mono ?_); rintro e w' ⟨rfl, rfl⟩)) | (go_at_call 30; ((with_reducible refine (refBetween _ 0 1 _).mono ?_); rintro e w' ⟨rfl, rfl⟩)))
          all_goals (go_ret; exact ⟨rfl, by (repeat' (first | (with_reducible exact Below.refl _ _) | (with_reducible assumption) | (with_reducible refine Below.alloc ?_ ?_ _) | (with_reducible refine Below.drew ?_) | (with_reducible refine below_drewN ?_ _) | (with_reducible refine Below.setCell ?_ ?_ _) | (with_reducible refine Below.trans ?_ (Below.mono (by assumption) ?_)) | omega | (simp only [World.size_alloc]; omega) | (simp; omega) | (simp; done)))⟩)
        · have g3' : wanted ≤ now := by omega
          clear g3
          go_enter Try.func9, Try.ntmps9
          go_wp2_with fail
          refine wp_loop_rounds 1 ?_
          rw [rounds_succ]
          go_wp2_with (first | (go_at_call 44; ((with_reducible refine (lawWanted_nil _ _ _).mono ?_); rintro e w' ⟨rfl, rfl⟩)) | (go_at_call 30; ((with_reducible refine (refBetween_t _ 0 3 _ (by omega) (by omega)).mono ?_); rintro e w' ⟨rfl, rfl⟩)) | (go_at_call 45; ((with_reducible refine (lawNext_gt _ _ _ (by omega) (by omega) (by omega) (by omega) (by omega)).mono ?_); rintro e w' ⟨rfl, rfl⟩)) | (go_at_call 17; ((with_reducible refine (refWhen _ _ _).mono ?_); rintro e w' ⟨rfl, rfl⟩)) | (go_at_call 21; ((with_reducible refine (refIs _ _ _).mono ?_); rintro e w' ⟨rfl, rfl⟩)) | (go_at_call 46; ((with_reducible refine (lawGuarded _ _).mono ?_); rintro e w' ⟨rfl, rfl⟩)) | (go_at_call 30; ((with_reducible refine (refBetween _ 0 1 _).mono ?_); rintro e w' ⟨rfl, rfl⟩)))
          all_goals (go_ret; exact ⟨rfl, by (repeat' (first | (with_reducible exact Below.refl _ _) | (with_reducible assumption) | (with_reducible refine Below.alloc ?_ ?_ _) | (with_reducible refine Below.drew ?_) | (with_reducible refine below_drewN ?_ _) | (with_reducible refine Below.setCell ?_ ?_ _) | (with_reducible refine Below.trans ?_ (Below.mono (by assumption) ?_)) | omega | (simp only [World.size_alloc]; omega) | (simp; omega) | (simp; done)))⟩)
      · go_enter Try.func9, Try.ntmps9
        go_wp2_with fail
        refine wp_loop_rounds 1 ?_
        rw [rounds_succ]
        go_wp2_with (first | (go_at_call 44; ((with_reducible refine (lawWanted_nil _ _ _).mono ?_); rintro e w' ⟨rfl, rfl⟩)) | (go_at_call 30; ((with_reducible refine (refBetween_t _ 0 3 _ (by omega) (by omega)).mono ?_); rintro e w' ⟨rfl, rfl⟩)) | (go_at_call 45; ((with_reducible refine (lawNext_t _ _ _ (by omega) (by omega) (by omega) (by omega)).mono ?_); rintro e w' ⟨rfl, rfl⟩)) | (go_at_call 17; ((with_reducible refine (refWhen _ _ _).mono ?_); rintro e w' ⟨rfl, rfl⟩)) | (go_at_call 21; ((with_reducible refine (refIs _ _ _).mono ?_); rintro e w' ⟨rfl, rfl⟩)) | (go_at_call 46; ((with_reducible refine (lawGuarded _ _).mono ?_); rintro e w' ⟨rfl, rfl⟩)) | (go_at_call 30; ((with_reducible refine (refBetween _ 0 1 _).mono ?_); rintro e w' ⟨rfl, rfl⟩)))
        all_goals (go_ret; exact ⟨rfl, by (repeat' (first | (with_reducible exact Below.refl _ _) | (with_reducible assumption) | (with_reducible refine Below.alloc ?_ ?_ _) | (with_reducible refine Below.drew ?_) | (with_reducible refine below_drewN ?_ _) | (with_reducible refine Below.setCell ?_ ?_ _) | (with_reducible refine Below.trans ?_ (Below.mono (by assumption) ?_)) | omega | (simp only [World.size_alloc]; omega) | (simp; omega) | (simp; done)))⟩)
    · have G2 := Lib.hid g2
      have B2 := Lib.hid (show ¬(0 ≤ now ∧ now ≤ 3 ∧ 0 ≤ wanted ∧ wanted ≤ 3) from fun h => g2 h.2.2)
      clear g2
      go_enter Try.func9, Try.ntmps9
      go_wp2_with fail
      refine wp_loop_rounds 1 ?_
      rw [rounds_succ]
      go_wp2_with (first | (go_at_call 44; ((with_reducible refine (lawWanted_nil _ _ _).mono ?_); rintro e w' ⟨rfl, rfl⟩)) | (go_at_call 30; ((with_reducible refine (refBetween_t _ 0 3 _ (by omega) (by omega)).mono ?_); rintro e w' ⟨rfl, rfl⟩)) | (go_at_call 30; ((with_reducible refine (refBetween_f wanted 0 3 _ G2.out).mono ?_); rintro e w' ⟨rfl, rfl⟩)) | (go_at_call 45; ((with_reducible refine (lawNext_bad _ _ _ _ B2.out).mono ?_); rintro e w' ⟨rfl, rfl⟩)) | (go_at_call 17; ((with_reducible refine (refWhen _ _ _).mono ?_); rintro e w' ⟨rfl, rfl⟩)) | (go_at_call 21; ((with_reducible refine (refIs _ _ _).mono ?_); rintro e w' ⟨rfl, rfl⟩)) | (go_at_call 46; ((with_reducible refine (lawGuarded _ _).mono ?_); rintro e w' ⟨rfl, rfl⟩)) | (go_at_call 30; ((with_reducible refine (refBetween _ 0 1 _).mono ?_); rintro e w' ⟨rfl, rfl⟩)))
      all_goals (go_ret; exact ⟨rfl, by (repeat' (first | (with_reducible exact Below.refl _ _) | (with_reducible assumption) | (with_reducible refine Below.alloc ?_ ?_ _) | (with_reducible refine Below.drew ?_) | (with_reducible refine below_drewN ?_ _) | (with_reducible refine Below.setCell ?_ ?_ _) | (with_reducible refine Below.trans ?_ (Below.mono (by assumption) ?_)) | omega | (simp only [World.size_alloc]; omega) | (simp; omega) | (simp; done)))⟩)
  · have G1 := Lib.hid g1
    have B2 := Lib.hid (show ¬(0 ≤ now ∧ now ≤ 3 ∧ 0 ≤ wanted ∧ wanted ≤ 3) from fun h => g1 ⟨h.1, h.2.1⟩)
    clear g1
    go_enter Try.func9, Try.ntmps9
    go_wp2_with fail
    refine wp_loop_rounds 1 ?_
    rw [rounds_succ]
    go_wp2_with (first | (go_at_call 44; ((with_reducible refine (lawWanted_nil _ _ _).mono ?_); rintro e w' ⟨rfl, rfl⟩)) | (go_at_call 30; ((with_reducible refine (refBetween_f now 0 3 _ G1.out).mono ?_); rintro e w' ⟨rfl, rfl⟩)) | (go_at_call 45; ((with_reducible refine (lawNext_bad _ _ _ _ B2.out).mono ?_); rintro e w' ⟨rfl, rfl⟩)) | (go_at_call 17; ((with_reducible refine (refWhen _ _ _).mono ?_); rintro e w' ⟨rfl, rfl⟩)) | (go_at_call 21; ((with_reducible refine (refIs _ _ _).mono ?_); rintro e w' ⟨rfl, rfl⟩)) | (go_at_call 46; ((with_reducible refine (lawGuarded _ _).mono ?_); rintro e w' ⟨rfl, rfl⟩)) | (go_at_call 30; ((with_reducible refine (refBetween _ 0 1 _).mono ?_); rintro e w' ⟨rfl, rfl⟩)))
    all_goals (go_ret; exact ⟨rfl, by (repeat' (first | (with_reducible exact Below.refl _ _) | (with_reducible assumption) | (with_reducible refine Below.alloc ?_ ?_ _) | (with_reducible refine Below.drew ?_) | (with_reducible refine below_drewN ?_ _) | (with_reducible refine Below.setCell ?_ ?_ _) | (with_reducible refine Below.trans ?_ (Below.mono (by assumption) ?_)) | omega | (simp only [World.size_alloc]; omega) | (simp; omega) | (simp; done)))⟩)

theorem LawSays_long (A : Option Addr) (n c : Nat) (now wanted : Int) (ground : Bool) (w : World) (h : 20 < (n : Int)) (_h2 : n ≤ 9223372036854775807) :
    Calls Try.prog 9 #[.slice A n c, .int .i64 now, .int .i64 wanted, .bool ground] w fun e w' => e = .returned (.bool true) ∧ Below w.heap.size w w' := by
  go_enter Try.func9, Try.ntmps9
  go_wp2_with fail
  go_ret
  exact ⟨rfl, Below.refl _ _⟩

open Go.ChangeShapes Go.WideShapes Go.ChangeAt in
set_option maxRecDepth 100000 in
theorem walkLawSays {H : Type} (W : World) (base : Nat) (enc : TypeId × Value → H) (v0 v1 v2 v3 : Value) {d0 d1 d2 d3 : DataW H} {p0 p1 p2 p3 : List MemPlace}
    (k0 : Value.okWide Try.prog W .any base 57 v0) (k1 : Value.okWide Try.prog W .any base 3 v1) (k2 : Value.okWide Try.prog W .any base 3 v2) (k3 : Value.okWide Try.prog W .any base 4 v3)
    (h0 : DataW.Trod enc Try.prog W 0 (fun _ => true) true 57 v0 d0 p0) (_ : DataW.Trod enc Try.prog W 0 (fun _ => true) true 3 v1 d1 p1) (_ : DataW.Trod enc Try.prog W 0 (fun _ => true) true 3 v2 d2 p2) (_ : DataW.Trod enc Try.prog W 0 (fun _ => true) true 4 v3 d3 p3) :
    Calls Try.prog 9 #[v0, v1, v2, v3] W fun e W' => e = .returned (.bool true) ∧ Below W.heap.size W W' := by
  obtain ⟨x1, rfl, _⟩ := okWide_int Try.underlying3 k1
  obtain ⟨x2, rfl, _⟩ := okWide_int Try.underlying3 k2
  obtain ⟨x3, rfl⟩ := okWide_bool Try.underlying4 k3
  obtain ⟨A, n, c, rfl, hnc, hcm, hs⟩ := slice_elems 3 (fun cs => ∃ a b d : Int, cs[0]? = some (.int .i64 a) ∧ cs[1]? = some (.int .i64 b) ∧ cs[2]? = some (.int .i64 d)) Try.underlying57 (by kernel_rfl) (by omega)
    (fun n cs x h => by
      have hh := trod_ints Try.underlying60 (by kernel_rfl) (fun i f hf => by
        match i, hf with
        | 0, hf => simp at hf; subst hf; exact Try.underlying3
        | 1, hf => simp at hf; subst hf; exact Try.underlying3
        | 2, hf => simp at hf; subst hf; exact Try.underlying3) h
      obtain ⟨a, ha, _⟩ := hh 0 _ rfl
      obtain ⟨b, hb, _⟩ := hh 1 _ rfl
      obtain ⟨d, hd, _⟩ := hh 2 _ rfl
      exact ⟨a, b, d, ha, hb, hd⟩) k0 h0
  unfold maxLen at hcm
  rcases hs with rfl | ⟨b, off, rfl, hb, hcell⟩
  · exact LawSays_nil A c x1 x2 x3 W
  · by_cases hn : n ≤ 20
    · have hf : ∀ i, ∃ f : Int × Int × Int, i < n → W.cell? ⟨b, off + i * 3, none⟩ = some (.int .i64 f.1) ∧ W.cell? ⟨b, off + i * 3 + 1, none⟩ = some (.int .i64 f.2.1) ∧ W.cell? ⟨b, off + i * 3 + 2, none⟩ = some (.int .i64 f.2.2) := by
        intro i
        by_cases hi : i < n
        · obtain ⟨cs, _, ⟨a, b', d, ha, hb', hd⟩, hc⟩ := hcell i hi
          exact ⟨(a, b', d), fun _ => ⟨(hc 0 (by omega)).trans ha, (hc 1 (by omega)).trans hb', (hc 2 (by omega)).trans hd⟩⟩
        · exact ⟨(0, 0, 0), fun h => absurd h hi⟩
      obtain ⟨f, hf⟩ := Classical.axiomOfChoice hf
      exact LawSays_slice b off c n (fun i => (f i).1) (fun i => (f i).2.1) (fun i => (f i).2.2) x1 x2 x3 W hn ⟨hb, hf⟩
    · exact LawSays_long _ n c x1 x2 x3 W (by omega) (by omega)
end Go.Proofs.Ytalfgmhjnfnbeaa
