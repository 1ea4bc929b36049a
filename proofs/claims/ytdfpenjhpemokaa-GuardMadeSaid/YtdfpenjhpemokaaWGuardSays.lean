/-
  The law GuardSays walked.
-/
import Derived.Test.YtdfpenjhpemokaaFrame
import Derived.Test.YtdfpenjhpemokaaGuard5
import Derived.Test.YtdfpenjhpemokaaFix2
set_option linter.unusedVariables false
set_option linter.unusedSimpArgs false
namespace Go.Proofs.Ytdfpenjhpemokaa
open Go.RowKit

theorem pask_when (most s : Int)  : pwhen (!(decide (-most ≤ s) && decide (s ≤ most))) 1 = paskMay most s := by
  unfold pwhen paskMay
  by_cases h : -most ≤ s ∧ s ≤ most
  · rw [if_neg (by simp; omega), if_neg (by omega)]
  · rw [if_pos (by simp; omega), if_pos (by omega)]

set_option maxHeartbeats 400000 in
theorem GuardSays_core (lo hi noise push most rate s : Int) (_ : B64 lo) (_ : B64 hi) (_ : B64 noise) (_ : B64 push) (_ : B64 most) (_ : B64 rate) (_ : B64 s) (w : World) :
    Calls Try.prog 65 #[.agg #[.int .i64 lo, .int .i64 hi, .int .i64 noise, .int .i64 push, .int .i64 most, .int .i64 rate], .int .i64 s] w fun e w' => e = .returned (.bool true) ∧ Below w.heap.size w w' := by
  by_cases h : por (pguardMay lo hi noise push most rate) (paskMay most s) = 0
  · have hg : pguardMay lo hi noise push most rate = 0 := by
      unfold por at h; split at h
      · assumption
      · exact h
    have ha : -most ≤ s ∧ s ≤ most := by
      rw [hg, por_0] at h; unfold paskMay at h; split at h
      · omega
      · omega
    have hf := pguardMay_fine hg
    obtain ⟨⟨a1, a2, a3, a4, a5, a6, a7, a8, a9, a10, a11, a12⟩, b1, b2, b3⟩ := hf
    obtain ⟨c1, c2⟩ := ha
    have hm := pask_when most s
    have hm0 : paskMay most s = 0 := by rwa [hg, por_0] at h
    rw [hm0] at hm
    have HM := Lib.hid hm
    have H := Lib.hid h
    have HG := Lib.hid hg
    have hp0 : pfirst [0, 0] = 0 := rfl
    clear hm h hm0 b3
    go_enter Try.func65, Try.ntmps65
    go_wp2_with (first | (go_at_call 58; ((with_reducible refine (refGuardMay _ _ _ _ _ _ _).mono ?_); rintro e w1 ⟨rfl, hb1⟩; have hz1 := hb1.size; (try simp only [World.size_alloc] at hz1); have hB1 : Below w.heap.size w w1 := by (repeat' (first | (with_reducible exact Below.refl _ _) | (with_reducible assumption) | (with_reducible refine Below.alloc ?_ ?_ _) | (with_reducible refine Below.drew ?_) | (with_reducible refine below_drewN ?_ _) | (with_reducible refine Below.setCell ?_ ?_ _) | (with_reducible refine Below.trans ?_ (Below.mono (by assumption) ?_)) | omega | (simp; omega) | (simp; done)))); (try have hq1 := fun o : Nat => hb1.cell (p := ⟨w.heap.size, o, none⟩) (by first | omega | (simp; done) | (simp; omega))); (try have hqa1 := fun o : Nat => hb1.cell (p := ⟨w.heap.size + 1, o, none⟩) (by first | omega | (simp; done) | (simp; omega))); (try have hy1 : w.heap.size < w1.heap.size := by omega); (try have hya1 : w.heap.size + 1 < w1.heap.size := by omega); clear hb1) | (go_at_call 47; ((with_reducible refine (refBetween_t _ _ _ _ (by omega) (by omega)).mono ?_); rintro e w' ⟨rfl, rfl⟩)) | (go_at_call 30; ((with_reducible refine (refWhen _ _ _).mono ?_); rintro e w' ⟨rfl, rfl⟩)) | (go_at_call 39; ((with_reducible refine (refFirst _ _ [0, 0] 2 _ rfl (by omega) (cells2 _ _ _ _ _ _ (by simp))).mono ?_); rintro e w' ⟨rfl, rfl⟩)) | (go_at_call 134; ((with_reducible refine (refBrake _ _ _ _ _ _ _ _ (by omega) (by omega) (by omega) (by omega) (by omega) (by omega)).mono ?_); rintro e w' ⟨rfl, rfl⟩)) | (go_at_call 122; ((with_reducible refine (guardBrake_0 _ _ _ _ _ _ _ _ H.out).mono ?_); rintro e w2 ⟨rfl, hb2⟩; have hz2 := hb2.size; (try simp only [World.size_alloc] at hz2); have hB2 : Below w.heap.size w w2 := by (repeat' (first | (with_reducible exact Below.refl _ _) | (with_reducible assumption) | (with_reducible refine Below.alloc ?_ ?_ _) | (with_reducible refine Below.drew ?_) | (with_reducible refine below_drewN ?_ _) | (with_reducible refine Below.setCell ?_ ?_ _) | (with_reducible refine Below.trans ?_ (Below.mono (by assumption) ?_)) | omega | (simp; omega) | (simp; done)))); (try have hq2 := fun o : Nat => hb2.cell (p := ⟨w.heap.size, o, none⟩) (by first | omega | (simp; done) | (simp; omega))); (try have hqa2 := fun o : Nat => hb2.cell (p := ⟨w.heap.size + 1, o, none⟩) (by first | omega | (simp; done) | (simp; omega))); (try have hy2 : w.heap.size < w2.heap.size := by omega); (try have hya2 : w.heap.size + 1 < w2.heap.size := by omega); clear hb2) | (go_at_call 139; ((with_reducible refine (guardCheck _ _ _ _ _ _ _).mono ?_); rintro e w3 ⟨rfl, hb3⟩; have hz3 := hb3.size; (try simp only [World.size_alloc] at hz3); have hB3 : Below w.heap.size w w3 := by (repeat' (first | (with_reducible exact Below.refl _ _) | (with_reducible assumption) | (with_reducible refine Below.alloc ?_ ?_ _) | (with_reducible refine Below.drew ?_) | (with_reducible refine below_drewN ?_ _) | (with_reducible refine Below.setCell ?_ ?_ _) | (with_reducible refine Below.trans ?_ (Below.mono (by assumption) ?_)) | omega | (simp; omega) | (simp; done)))); (try have hq3 := fun o : Nat => hb3.cell (p := ⟨w.heap.size, o, none⟩) (by first | omega | (simp; done) | (simp; omega))); (try have hqa3 := fun o : Nat => hb3.cell (p := ⟨w.heap.size + 1, o, none⟩) (by first | omega | (simp; done) | (simp; omega))); (try have hy3 : w.heap.size < w3.heap.size := by omega); (try have hya3 : w.heap.size + 1 < w3.heap.size := by omega); clear hb3) | (go_at_call 34; ((with_reducible refine (refIs _ _ _).mono ?_); rintro e w' ⟨rfl, rfl⟩)))
    go_ret
    exact ⟨rfl, by (repeat' (first | (with_reducible exact Below.refl _ _) | (with_reducible assumption) | (with_reducible refine Below.alloc ?_ ?_ _) | (with_reducible refine Below.drew ?_) | (with_reducible refine below_drewN ?_ _) | (with_reducible refine Below.setCell ?_ ?_ _) | (with_reducible refine Below.trans ?_ (Below.mono (by assumption) ?_)) | omega | (simp; omega) | (simp; done)))⟩
  · by_cases hg : pguardMay lo hi noise push most rate = 0
    · have hf := pguardMay_fine hg
      obtain ⟨⟨a1, a2, a3, a4, a5, a6, a7, a8, a9, a10, a11, a12⟩, b1, b2, b3⟩ := hf
      have hm1 : paskMay most s = 1 := by
        rw [hg, por_0] at h
        unfold paskMay at h ⊢
        split at h
        · rw [if_pos (by assumption)]
        · omega
      have ho : ¬(-most ≤ s ∧ s ≤ most) := by
        unfold paskMay at hm1
        split at hm1 <;> omega
      have HO := Lib.hid ho
      have hp0 : pfirst [0, 1] = 1 := rfl
      have hpo : por 0 1 = 1 := rfl
      have H := Lib.hid h
      clear h b3 ho
      go_enter Try.func65, Try.ntmps65
      go_wp2_with (first | (go_at_call 58; ((with_reducible refine (refGuardMay _ _ _ _ _ _ _).mono ?_); rintro e w1 ⟨rfl, hb1⟩; have hz1 := hb1.size; (try simp only [World.size_alloc] at hz1); have hB1 : Below w.heap.size w w1 := by (repeat' (first | (with_reducible exact Below.refl _ _) | (with_reducible assumption) | (with_reducible refine Below.alloc ?_ ?_ _) | (with_reducible refine Below.drew ?_) | (with_reducible refine below_drewN ?_ _) | (with_reducible refine Below.setCell ?_ ?_ _) | (with_reducible refine Below.trans ?_ (Below.mono (by assumption) ?_)) | omega | (simp; omega) | (simp; done)))); (try have hq1 := fun o : Nat => hb1.cell (p := ⟨w.heap.size, o, none⟩) (by first | omega | (simp; done) | (simp; omega))); (try have hqa1 := fun o : Nat => hb1.cell (p := ⟨w.heap.size + 1, o, none⟩) (by first | omega | (simp; done) | (simp; omega))); (try have hy1 : w.heap.size < w1.heap.size := by omega); (try have hya1 : w.heap.size + 1 < w1.heap.size := by omega); clear hb1) | (go_at_call 47; ((with_reducible refine (refBetween_f _ _ _ _ HO.out).mono ?_); rintro e w' ⟨rfl, rfl⟩)) | (go_at_call 30; ((with_reducible refine (refWhen _ _ _).mono ?_); rintro e w' ⟨rfl, rfl⟩)) | (go_at_call 39; ((with_reducible refine (refFirst _ _ [0, 1] 2 _ rfl (by omega) (cells2 _ _ _ _ _ _ (by simp))).mono ?_); rintro e w' ⟨rfl, rfl⟩)) | (go_at_call 122; ((with_reducible refine (guardBrake_n _ _ _ _ _ _ _ _ H.out).mono ?_); rintro e w2 ⟨rfl, hb2⟩; have hz2 := hb2.size; (try simp only [World.size_alloc] at hz2); have hB2 : Below w.heap.size w w2 := by (repeat' (first | (with_reducible exact Below.refl _ _) | (with_reducible assumption) | (with_reducible refine Below.alloc ?_ ?_ _) | (with_reducible refine Below.drew ?_) | (with_reducible refine below_drewN ?_ _) | (with_reducible refine Below.setCell ?_ ?_ _) | (with_reducible refine Below.trans ?_ (Below.mono (by assumption) ?_)) | omega | (simp; omega) | (simp; done)))); (try have hq2 := fun o : Nat => hb2.cell (p := ⟨w.heap.size, o, none⟩) (by first | omega | (simp; done) | (simp; omega))); (try have hqa2 := fun o : Nat => hb2.cell (p := ⟨w.heap.size + 1, o, none⟩) (by first | omega | (simp; done) | (simp; omega))); (try have hy2 : w.heap.size < w2.heap.size := by omega); (try have hya2 : w.heap.size + 1 < w2.heap.size := by omega); clear hb2) | (go_at_call 139; ((with_reducible refine (guardCheck _ _ _ _ _ _ _).mono ?_); rintro e w3 ⟨rfl, hb3⟩; have hz3 := hb3.size; (try simp only [World.size_alloc] at hz3); have hB3 : Below w.heap.size w w3 := by (repeat' (first | (with_reducible exact Below.refl _ _) | (with_reducible assumption) | (with_reducible refine Below.alloc ?_ ?_ _) | (with_reducible refine Below.drew ?_) | (with_reducible refine below_drewN ?_ _) | (with_reducible refine Below.setCell ?_ ?_ _) | (with_reducible refine Below.trans ?_ (Below.mono (by assumption) ?_)) | omega | (simp; omega) | (simp; done)))); (try have hq3 := fun o : Nat => hb3.cell (p := ⟨w.heap.size, o, none⟩) (by first | omega | (simp; done) | (simp; omega))); (try have hqa3 := fun o : Nat => hb3.cell (p := ⟨w.heap.size + 1, o, none⟩) (by first | omega | (simp; done) | (simp; omega))); (try have hy3 : w.heap.size < w3.heap.size := by omega); (try have hya3 : w.heap.size + 1 < w3.heap.size := by omega); clear hb3) | (go_at_call 34; ((with_reducible refine (refIs _ _ _).mono ?_); rintro e w' ⟨rfl, rfl⟩)))
      go_ret
      exact ⟨rfl, by (repeat' (first | (with_reducible exact Below.refl _ _) | (with_reducible assumption) | (with_reducible refine Below.alloc ?_ ?_ _) | (with_reducible refine Below.drew ?_) | (with_reducible refine below_drewN ?_ _) | (with_reducible refine Below.setCell ?_ ?_ _) | (with_reducible refine Below.trans ?_ (Below.mono (by assumption) ?_)) | omega | (simp; omega) | (simp; done)))⟩
    · have hpo : por (pguardMay lo hi noise push most rate) (paskMay most s) = pguardMay lo hi noise push most rate := por_ne hg
      have hpf : ∀ x, pfirst [pguardMay lo hi noise push most rate, x] = pguardMay lo hi noise push most rate := fun x => by rw [pfirst2, por_ne hg]
      have hz : (pguardMay lo hi noise push most rate == 0) = false := by simpa using hg
      have H := Lib.hid h
      clear h hg
      go_enter Try.func65, Try.ntmps65
      go_wp2_with (first | (go_at_call 58; ((with_reducible refine (refGuardMay _ _ _ _ _ _ _).mono ?_); rintro e w1 ⟨rfl, hb1⟩; have hz1 := hb1.size; (try simp only [World.size_alloc] at hz1); have hB1 : Below w.heap.size w w1 := by (repeat' (first | (with_reducible exact Below.refl _ _) | (with_reducible assumption) | (with_reducible refine Below.alloc ?_ ?_ _) | (with_reducible refine Below.drew ?_) | (with_reducible refine below_drewN ?_ _) | (with_reducible refine Below.setCell ?_ ?_ _) | (with_reducible refine Below.trans ?_ (Below.mono (by assumption) ?_)) | omega | (simp; omega) | (simp; done)))); (try have hq1 := fun o : Nat => hb1.cell (p := ⟨w.heap.size, o, none⟩) (by first | omega | (simp; done) | (simp; omega))); (try have hqa1 := fun o : Nat => hb1.cell (p := ⟨w.heap.size + 1, o, none⟩) (by first | omega | (simp; done) | (simp; omega))); (try have hy1 : w.heap.size < w1.heap.size := by omega); (try have hya1 : w.heap.size + 1 < w1.heap.size := by omega); clear hb1) | (go_at_call 47; ((with_reducible refine (refBetween _ _ _ _).mono ?_); rintro e w' ⟨rfl, rfl⟩)) | (go_at_call 30; ((with_reducible refine (refWhen _ _ _).mono ?_); rintro e w' ⟨rfl, rfl⟩)) | (go_at_call 39; ((with_reducible refine (refFirst _ _ [_, _] 2 _ rfl (by omega) (cells2 _ _ _ _ _ _ (by simp))).mono ?_); rintro e w' ⟨rfl, rfl⟩)) | (go_at_call 122; ((with_reducible refine (guardBrake_n _ _ _ _ _ _ _ _ H.out).mono ?_); rintro e w2 ⟨rfl, hb2⟩; have hz2 := hb2.size; (try simp only [World.size_alloc] at hz2); have hB2 : Below w.heap.size w w2 := by (repeat' (first | (with_reducible exact Below.refl _ _) | (with_reducible assumption) | (with_reducible refine Below.alloc ?_ ?_ _) | (with_reducible refine Below.drew ?_) | (with_reducible refine below_drewN ?_ _) | (with_reducible refine Below.setCell ?_ ?_ _) | (with_reducible refine Below.trans ?_ (Below.mono (by assumption) ?_)) | omega | (simp; omega) | (simp; done)))); (try have hq2 := fun o : Nat => hb2.cell (p := ⟨w.heap.size, o, none⟩) (by first | omega | (simp; done) | (simp; omega))); (try have hqa2 := fun o : Nat => hb2.cell (p := ⟨w.heap.size + 1, o, none⟩) (by first | omega | (simp; done) | (simp; omega))); (try have hy2 : w.heap.size < w2.heap.size := by omega); (try have hya2 : w.heap.size + 1 < w2.heap.size := by omega); clear hb2) | (go_at_call 139; ((with_reducible refine (guardCheck _ _ _ _ _ _ _).mono ?_); rintro e w3 ⟨rfl, hb3⟩; have hz3 := hb3.size; (try simp only [World.size_alloc] at hz3); have hB3 : Below w.heap.size w w3 := by (repeat' (first | (with_reducible exact Below.refl _ _) | (with_reducible assumption) | (with_reducible refine Below.alloc ?_ ?_ _) | (with_reducible refine Below.drew ?_) | (with_reducible refine below_drewN ?_ _) | (with_reducible refine Below.setCell ?_ ?_ _) | (with_reducible refine Below.trans ?_ (Below.mono (by assumption) ?_)) | omega | (simp; omega) | (simp; done)))); (try have hq3 := fun o : Nat => hb3.cell (p := ⟨w.heap.size, o, none⟩) (by first | omega | (simp; done) | (simp; omega))); (try have hqa3 := fun o : Nat => hb3.cell (p := ⟨w.heap.size + 1, o, none⟩) (by first | omega | (simp; done) | (simp; omega))); (try have hy3 : w.heap.size < w3.heap.size := by omega); (try have hya3 : w.heap.size + 1 < w3.heap.size := by omega); clear hb3) | (go_at_call 34; ((with_reducible refine (refIs _ _ _).mono ?_); rintro e w' ⟨rfl, rfl⟩)))
      go_ret
      exact ⟨rfl, by (repeat' (first | (with_reducible exact Below.refl _ _) | (with_reducible assumption) | (with_reducible refine Below.alloc ?_ ?_ _) | (with_reducible refine Below.drew ?_) | (with_reducible refine below_drewN ?_ _) | (with_reducible refine Below.setCell ?_ ?_ _) | (with_reducible refine Below.trans ?_ (Below.mono (by assumption) ?_)) | omega | (simp; omega) | (simp; done)))⟩
end Go.Proofs.Ytdfpenjhpemokaa
