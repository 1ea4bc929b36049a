/-
  The reference's First (of errors that is one), and fix.Add: loops over slices that are only read.
-/
import Derived.Test.YtdfpenjhpemokaaErr
import Derived.Deep.RegionHeld3
set_option linter.unusedVariables false
set_option linter.unusedSimpArgs false
namespace Go.Proofs.Ytdfpenjhpemokaa
open Go.RowKit

theorem cell_alloc_keep {w : World} {a : Addr} {v : Value} {o : Obj} (h : w.cell? a = some v) : (w.alloc o).cell? a = some v := by
  rw [World.cell?_alloc_some w a o (by simp [h]), h]
theorem cell_drew_keep {w : World} {a : Addr} {v : Value} (h : w.cell? a = some v) : w.drew.cell? a = some v := h
theorem cell_drewN_keep {w : World} {a : Addr} {v : Value} {n : Nat} (h : w.cell? a = some v) : (w.drewN n).cell? a = some v := h

def pfirst : List Int → Int
  | [] => 0
  | x :: l => if x = 0 then pfirst l else x
theorem pfirst_drop (l : List Int) (k : Nat) (h : k < l.length) : pfirst (l.drop k) = if l[k]?.getD 0 = 0 then pfirst (l.drop (k + 1)) else l[k]?.getD 0 := by
  rw [List.drop_eq_getElem_cons h]
  simp [pfirst, h]

theorem refFirst (b : Nat) (c : Nat) (l : List Int) (n : Nat) (w : World) (hn : l.length = n) (hm : n ≤ 1000) (hc : ∀ k, k < n → w.cell? ⟨b, k, none⟩ = some (.int .i64 (l[k]?.getD 0))) :
    Calls Try.prog 39 #[.slice (some ⟨b, 0, none⟩) n c] w fun e w' => e = .returned (.int .i64 (pfirst l)) ∧ w = w' := by
  have HC := Lib.hid hc
  have HN := Lib.hid hn
  clear hc hn
  go_enter Try.func39, Try.ntmps39
  go_wp2
  go_loop [3] (fun i => ∃ k : Nat, k ≤ n ∧ i = .int .i64 k ∧ Hid (pfirst l = pfirst (l.drop k))) (fun i => n - (intOf i).toNat)
  case atStart => exact ⟨0, Nat.zero_le _, rfl, rfl⟩
  case round =>
    obtain ⟨k, hk, rfl, hp⟩ := hrel
    by_cases hlt : k < n
    · have hck := HC.out k hlt
      have hd := pfirst_drop l k (by rw [HN.out]; exact hlt)
      by_cases h0 : l[k]?.getD 0 = 0
      · rw [if_pos h0] at hd
        have hp2 : Hid (pfirst l = pfirst (l.drop (k + 1))) := hp.out.trans hd
        clear hd hp
        rw [h0] at hck
        clear h0
        go_wp2
        go_round
        case rel => exact ⟨k + 1, by omega, by go_num, hp2⟩
        case measure => simp [intOf]; omega
      · rw [if_neg h0] at hd
        have hp2 : Hid (pfirst l = l[k]?.getD 0) := hp.out.trans hd
        clear hd hp
        generalize l[k]?.getD 0 = x at *
        have h0' : (x != 0) = true := by simpa using h0
        go_wp2
        go_ret
        exact ⟨ret_int hp2.out.symm, rfl⟩
    · have hkn : k = n := by omega
      have hp2 : Hid (pfirst l = 0) := by
        have := hp.out
        rw [List.drop_eq_nil_of_le (by rw [HN.out]; omega)] at this
        exact this
      clear hp
      go_wp2
      go_ret
      exact ⟨ret_int hp2.out.symm, rfl⟩

end Go.Proofs.Ytdfpenjhpemokaa
