/-
  The law WordReads walked.
-/
import Derived.Test.YtdfpenjhpemokaaOpen
import Derived.Test.YtdfpenjhpemokaaWord4
namespace Go.Proofs.Ytdfpenjhpemokaa
open Go.RowKit
theorem refOdd_is (x : Nat) (o : Bool) (w : World) (hx : x < 4294967296) (h : Unit → podd x = o) : Calls Try.prog 31 #[.int .u32 x] w fun e w' => e = .returned (.bool o) ∧ w = w' := by
  rw [← h ()]; exact refOdd x w hx

set_option maxHeartbeats 400000 in
theorem WordReads_t (x T S U : Nat) (d : Int) (w : World) (hx : x < 4294967296) (ho : Unit → podd x = true) (hT : Unit → turn8 x = T) (hS : Unit → x / 256 % 4 = S) (hU : Unit → x / 536870912 % 4 = U) (hd : Unit → pdata x = d) :
    Calls Try.prog 3 #[.int .u32 x] w fun e w' => e = .returned (.bool true) ∧ Below w.heap.size w w' := by
  have hTH : Hid (turn8 x = T) := hT ()
  go_enter Try.func3, Try.ntmps3
  go_wp2_with (first | (go_at_call 31; ((with_reducible refine (refOdd_is _ _ _ (by omega) ho).mono ?_); rintro e w' ⟨rfl, rfl⟩)) | (go_at_call 30; ((with_reducible refine (refWhen _ _ _).mono ?_); rintro e w' ⟨rfl, rfl⟩)) | (go_at_call 32; ((with_reducible refine (refReadingOf _ T S U d _ (by omega) hTH hS hU hd).mono ?_); rintro e w1 ⟨rfl, hb1⟩; have hz1 := hb1.size; (repeat (first | simp only [World.size_alloc] at hz1 | simp only [World.size_drew] at hz1 | simp only [World.size_setCell] at hz1)); have hB1 : Below w.heap.size w w1 := by (repeat' (first | (with_reducible exact Below.refl _ _) | (with_reducible assumption) | (with_reducible refine Below.alloc ?_ ?_ _) | (with_reducible refine Below.drew ?_) | (with_reducible refine below_drewN ?_ _) | (with_reducible refine Below.setCell ?_ ?_ _) | (with_reducible refine Below.trans ?_ (Below.mono (by assumption) ?_)) | omega | (simp; omega) | (simp; done)))); (have hq1_0 := fun o : Nat => hb1.cell (p := ⟨w.heap.size, o, none⟩) (by first | omega | (simp; done) | (simp; omega))); (have hf1_0 := fun o : Nat => hb1.frozen (p := ⟨w.heap.size, o, none⟩) (by first | omega | (simp; done) | (simp; omega))); (have hy1_0 : w.heap.size < w1.heap.size := by omega); clear hb1) | (go_at_call 33; ((with_reducible refine (wordUnpack_ok _ T S U d _ (by omega) ho hT hS hU hd).mono ?_); rintro e w2 ⟨rfl, hb2⟩; have hz2 := hb2.size; (repeat (first | simp only [World.size_alloc] at hz2 | simp only [World.size_drew] at hz2 | simp only [World.size_setCell] at hz2)); have hB2 : Below w.heap.size w w2 := by (repeat' (first | (with_reducible exact Below.refl _ _) | (with_reducible assumption) | (with_reducible refine Below.alloc ?_ ?_ _) | (with_reducible refine Below.drew ?_) | (with_reducible refine below_drewN ?_ _) | (with_reducible refine Below.setCell ?_ ?_ _) | (with_reducible refine Below.trans ?_ (Below.mono (by assumption) ?_)) | omega | (simp; omega) | (simp; done)))); (have hq2_0 := fun o : Nat => hb2.cell (p := ⟨w.heap.size, o, none⟩) (by first | omega | (simp; done) | (simp; omega))); (have hf2_0 := fun o : Nat => hb2.frozen (p := ⟨w.heap.size, o, none⟩) (by first | omega | (simp; done) | (simp; omega))); (have hy2_0 : w.heap.size < w2.heap.size := by omega); clear hb2) | (go_at_call 34; ((with_reducible refine (refIs _ _ _).mono ?_); rintro e w' ⟨rfl, rfl⟩)))
  go_ret
  exact ⟨rfl, by (repeat' (first | (with_reducible exact Below.refl _ _) | (with_reducible assumption) | (with_reducible refine Below.alloc ?_ ?_ _) | (with_reducible refine Below.drew ?_) | (with_reducible refine below_drewN ?_ _) | (with_reducible refine Below.setCell ?_ ?_ _) | (with_reducible refine Below.trans ?_ (Below.mono (by assumption) ?_)) | omega | (simp; omega) | (simp; done)))⟩

set_option maxHeartbeats 400000 in
theorem WordReads_f (x : Nat) (w : World) (hx : x < 4294967296) (ho : Unit → podd x = false) :
    Calls Try.prog 3 #[.int .u32 x] w fun e w' => e = .returned (.bool true) ∧ Below w.heap.size w w' := by
  go_enter Try.func3, Try.ntmps3
  go_wp2_with (first | (go_at_call 31; ((with_reducible refine (refOdd_is _ _ _ (by omega) ho).mono ?_); rintro e w' ⟨rfl, rfl⟩)) | (go_at_call 30; ((with_reducible refine (refWhen _ _ _).mono ?_); rintro e w' ⟨rfl, rfl⟩)) | (go_at_call 33; ((with_reducible refine (wordUnpack_bad _ _ (by omega) ho).mono ?_); rintro e w2 ⟨rfl, hb2⟩; have hz2 := hb2.size; (repeat (first | simp only [World.size_alloc] at hz2 | simp only [World.size_drew] at hz2 | simp only [World.size_setCell] at hz2)); have hB2 : Below w.heap.size w w2 := by (repeat' (first | (with_reducible exact Below.refl _ _) | (with_reducible assumption) | (with_reducible refine Below.alloc ?_ ?_ _) | (with_reducible refine Below.drew ?_) | (with_reducible refine below_drewN ?_ _) | (with_reducible refine Below.setCell ?_ ?_ _) | (with_reducible refine Below.trans ?_ (Below.mono (by assumption) ?_)) | omega | (simp; omega) | (simp; done)))); (have hq2_0 := fun o : Nat => hb2.cell (p := ⟨w.heap.size, o, none⟩) (by first | omega | (simp; done) | (simp; omega))); (have hf2_0 := fun o : Nat => hb2.frozen (p := ⟨w.heap.size, o, none⟩) (by first | omega | (simp; done) | (simp; omega))); (have hy2_0 : w.heap.size < w2.heap.size := by omega); clear hb2) | (go_at_call 34; ((with_reducible refine (refIs _ _ _).mono ?_); rintro e w' ⟨rfl, rfl⟩)))
  go_ret
  exact ⟨rfl, by (repeat' (first | (with_reducible exact Below.refl _ _) | (with_reducible assumption) | (with_reducible refine Below.alloc ?_ ?_ _) | (with_reducible refine Below.drew ?_) | (with_reducible refine below_drewN ?_ _) | (with_reducible refine Below.setCell ?_ ?_ _) | (with_reducible refine Below.trans ?_ (Below.mono (by assumption) ?_)) | omega | (simp; omega) | (simp; done)))⟩

theorem WordReads_core (x : Int) (hx : 0 ≤ x ∧ x ≤ 4294967295) (w : World) :
    Calls Try.prog 3 #[.int .u32 x] w fun e w' => e = .returned (.bool true) ∧ Below w.heap.size w w' := by
  obtain ⟨n, rfl⟩ := Int.eq_ofNat_of_zero_le hx.1
  cases ho : podd n
  · exact WordReads_f n w (by omega) (fun _ => ho)
  · exact WordReads_t n _ _ _ _ w (by omega) (fun _ => ho) (fun _ => rfl) (fun _ => rfl) (fun _ => rfl) (fun _ => rfl)
end Go.Proofs.Ytdfpenjhpemokaa
