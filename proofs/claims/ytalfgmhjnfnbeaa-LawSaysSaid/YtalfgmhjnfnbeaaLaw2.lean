/-
  law.Wanted over a slice of healths.
-/
import Derived.Test.YtalfgmhjnfnbeaaLaw
namespace Go.Proofs.Ytalfgmhjnfnbeaa
open Go.RowKit

/-- The slice's healths, in their cells. -/
def HealthCells (w : World) (b off n : Nat) (ch so su : Nat → Int) : Prop :=
  b < w.heap.size ∧ ∀ i, i < n → w.cell? ⟨b, off + i * 3, none⟩ = some (.int .i64 (ch i)) ∧ w.cell? ⟨b, off + i * 3 + 1, none⟩ = some (.int .i64 (so i)) ∧ w.cell? ⟨b, off + i * 3 + 2, none⟩ = some (.int .i64 (su i))
theorem HealthCells.below {w w' : World} {b off n : Nat} {ch so su : Nat → Int} (h : HealthCells w b off n ch so su) (hb : Below w.heap.size w w') : HealthCells w' b off n ch so su :=
  ⟨Nat.lt_of_lt_of_le h.1 hb.size, fun i hi => ⟨(hb.cell (p := ⟨b, _, none⟩) h.1).trans (h.2 i hi).1, (hb.cell (p := ⟨b, _, none⟩) h.1).trans (h.2 i hi).2.1, (hb.cell (p := ⟨b, _, none⟩) h.1).trans (h.2 i hi).2.2⟩⟩

theorem pscan_ok {ch so su : Nat → Int} {k : Nat} (h : (pscan ch so su k).1 = 0) (hh : phealth (ch k) (so k) (su k) = 0) :
    (pscan ch so su (k + 1)).1 = 0 ∧ (pscan ch so su (k + 1)).2 = max (pscan ch so su k).2 (plawof (ch k) (so k) (su k)) := by
  have e : por (pscan ch so su k).1 (phealth (ch k) (so k) (su k)) = 0 := by rw [h, por_0, hh]
  exact ⟨e, if_pos e⟩
theorem pscan_bad {ch so su : Nat → Int} {k : Nat} (h : (pscan ch so su k).1 = 0) : (pscan ch so su (k + 1)).1 = phealth (ch k) (so k) (su k) := by
  show por _ _ = _
  rw [h, por_0]

set_option maxHeartbeats 400000 in
theorem lawWanted (b off c n : Nat) (ch so su : Nat → Int) (w : World) (hn : n ≤ 1000) (hc : HealthCells w b off n ch so su) (r q : Int) (hr : Hid (r = if (pscan ch so su n).1 = 0 then (pscan ch so su n).2 else 0)) (hq : Hid (q = (pscan ch so su n).1)) :
    Calls Try.prog 44 #[.slice (some ⟨b, off, none⟩) n c] w fun e w' => e = .returned (.tuple #[.int .i64 r, errV q]) ∧ Below w.heap.size w w' := by
  have HC := Lib.hid hc
  have hbl := hc.1
  clear hc
  go_enter Try.func44, Try.ntmps44
  go_wp2
  go_loopw [4, 10] (fun m i wr => ∃ k : Nat, k ≤ n ∧ i = .int .i64 k ∧ Hid ((pscan ch so su k).1 = 0) ∧ m = .int .i64 (pscan ch so su k).2 ∧ Below w.heap.size w wr) (fun _ i _ => n - (intOf i).toNat)
  case atStart => exact ⟨0, Nat.zero_le _, rfl, rfl, rfl, Below.refl _ _⟩
  case round =>
    obtain ⟨k, hk, rfl, he, rfl, hbw⟩ := hrel
    by_cases hlt : k < n
    · have hcc := (HC.out.below hbw).2 k hlt
      obtain ⟨c1, c2, c3⟩ := hcc
      have hlw : b < wr.heap.size := Nat.lt_of_lt_of_le hbl hbw.size
      have hsz := hbw.size
      have hbd := pscan_bd ch so su k
      by_cases hh : phealth (ch k) (so k) (su k) = 0
      · have hz : (phealth (ch k) (so k) (su k) != 0) = false := by simpa using hh
        have hp := pscan_ok he.out hh
        obtain ⟨hp1, hp2⟩ := hp
        have HP1 := Lib.hid hp1
        have HP2 := Lib.hid hp2
        have HH := Lib.hid hh
        have hld := plawof_bd (ch k) (so k) (su k)
        clear hp1 hp2 hh
        go_wp2_with (first | (go_at_call 42; ((with_reducible refine (lawCheck _ _ _ _).mono ?_); rintro e w' ⟨rfl, rfl⟩)) | (go_at_call 77; ((with_reducible refine (lawof _ _ _ _ HH.out).mono ?_); rintro e w' ⟨rfl, rfl⟩)))
        all_goals
          go_roundw
          case rel => exact ⟨k + 1, by omega, by go_num, HP1, by rw [HP2.out]; go_num, by (repeat' (first | (with_reducible exact Below.refl _ _) | (with_reducible assumption) | (with_reducible refine Below.alloc ?_ ?_ _) | (with_reducible refine Below.drew ?_) | (with_reducible refine below_drewN ?_ _) | (with_reducible refine Below.setCell ?_ ?_ _) | (with_reducible refine Below.trans ?_ (Below.mono (by assumption) ?_)) | omega | (simp only [World.size_alloc]; omega) | (simp; omega) | (simp; done)))⟩
          case measure => simp [intOf]; omega
      · have hz : (phealth (ch k) (so k) (su k) != 0) = true := by simpa using hh
        have hs := pscan_stays ch so su (k + 1) (by rw [pscan_bad he.out]; exact hh) n hlt
        rw [pscan_bad he.out] at hs
        have hq' : Hid (phealth (ch k) (so k) (su k) = q) := hs.symm.trans hq.out.symm
        have hr' : Hid (r = 0) := by
          have := hr.out
          rwa [if_neg (by rw [hs]; exact hh)] at this
        clear hs hh
        go_wp2_with (first | (go_at_call 42; ((with_reducible refine (lawCheck _ _ _ _).mono ?_); rintro e w' ⟨rfl, rfl⟩)))
        go_ret2
        exact ⟨by rw [hr'.out, ← hq'.out]; rfl, by (repeat' (first | (with_reducible exact Below.refl _ _) | (with_reducible assumption) | (with_reducible refine Below.alloc ?_ ?_ _) | (with_reducible refine Below.drew ?_) | (with_reducible refine below_drewN ?_ _) | (with_reducible refine Below.setCell ?_ ?_ _) | (with_reducible refine Below.trans ?_ (Below.mono (by assumption) ?_)) | omega | (simp only [World.size_alloc]; omega) | (simp; omega) | (simp; done)))⟩
    · have hkn : k = n := by omega
      subst hkn
      have hq' : Hid (q = 0) := hq.out.trans he.out
      have hr' : Hid (r = (pscan ch so su k).2) := by
        have := hr.out
        rwa [if_pos he.out] at this
      clear hr hq he
      go_wp2
      go_ret2
      exact ⟨by rw [hr'.out, hq'.out]; rfl, hbw⟩

theorem lawWanted_nil (A : Option Addr) (c : Nat) (w : World) : Calls Try.prog 44 #[.slice A 0 c] w fun e w' => e = .returned (.tuple #[.int .i64 0, errV 0]) ∧ w = w' := by
  go_enter Try.func44, Try.ntmps44
  go_wp2_with fail
  refine wp_loop_rounds 1 ?_
  rw [rounds_succ]
  go_wp2_with fail
  go_ret2
  exact ⟨rfl, rfl⟩
end Go.Proofs.Ytalfgmhjnfnbeaa
