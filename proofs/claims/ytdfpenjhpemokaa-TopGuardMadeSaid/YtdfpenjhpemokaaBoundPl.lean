/-
  The plain law of a guard's bounds: the highest move with room for what it goes. No program in sight.
-/
import Derived.Test.YtdfpenjhpemokaaGuardPl
set_option linter.unusedVariables false
set_option linter.unusedSimpArgs false
namespace Go.Proofs.Ytdfpenjhpemokaa
open Go.RowKit

def phighN (push rate room lo : Int) : Nat → Int
  | 0 => lo
  | n + 1 => if pbrake push rate (lo + (n + 1 : Nat)) ≤ room then lo + (n + 1 : Nat) else phighN push rate room lo n
def phigh (push rate lo hi room : Int) : Int := phighN push rate room lo (hi - lo).toNat

def IsHigh (push rate lo hi room s : Int) : Prop := lo ≤ s ∧ s ≤ hi ∧ (s = lo ∨ pbrake push rate s ≤ room) ∧ (s = hi ∨ room < pbrake push rate (s + 1))

theorem phighN_is (push rate room lo : Int) (n : Nat) : IsHigh push rate lo (lo + n) room (phighN push rate room lo n) := by
  induction n with
  | zero => exact ⟨by simp [phighN], by simp [phighN], .inl rfl, .inl (by simp [phighN])⟩
  | succ n ih =>
    unfold phighN
    obtain ⟨h1, h2, h3, h4⟩ := ih
    split
    · rename_i h
      exact ⟨by omega, by omega, .inr h, .inl rfl⟩
    · rename_i h
      refine ⟨h1, by omega, h3, .inr ?_⟩
      rcases h4 with h4 | h4
      · rw [h4]
        have e : lo + (n : Int) + 1 = lo + ((n + 1 : Nat) : Int) := by omega
        rw [e]; omega
      · exact h4
theorem phigh_is {push rate lo hi room : Int} (h : lo ≤ hi) : IsHigh push rate lo hi room (phigh push rate lo hi room) := by
  have := phighN_is push rate room lo (hi - lo).toNat
  have e : lo + ((hi - lo).toNat : Int) = hi := by omega
  rw [e] at this
  exact this
theorem high_unique {push rate lo hi room s t : Int} (hr : 1 ≤ rate) (hs : IsHigh push rate lo hi room s) (ht : IsHigh push rate lo hi room t) : s = t := by
  obtain ⟨a1, a2, a3, a4⟩ := hs
  obtain ⟨b1, b2, b3, b4⟩ := ht
  rcases Int.lt_trichotomy s t with h | h | h
  · exfalso
    have hm := pbrake_mono (push := push) hr (by omega : s + 1 ≤ t)
    rcases a4 with a4 | a4
    · omega
    · rcases b3 with b3 | b3 <;> omega
  · exact h
  · exfalso
    have hm := pbrake_mono (push := push) hr (by omega : t + 1 ≤ s)
    rcases b4 with b4 | b4
    · omega
    · rcases a3 with a3 | a3 <;> omega
theorem phigh_of {push rate lo hi room s : Int} (hr : 1 ≤ rate) (h : lo ≤ hi) (hs : IsHigh push rate lo hi room s) : phigh push rate lo hi room = s := high_unique hr (phigh_is h) hs
theorem phigh_lo {push rate lo hi room : Int} (h : lo ≤ hi) : lo ≤ phigh push rate lo hi room := (phigh_is h).1
theorem phigh_hi {push rate lo hi room : Int} (h : lo ≤ hi) : phigh push rate lo hi room ≤ hi := (phigh_is h).2.1
theorem phigh_room {push rate lo hi room : Int} (hr : 1 ≤ rate) (h : lo ≤ hi) (hm : pbrake push rate hi ≤ room) : phigh push rate lo hi room = hi :=
  phigh_of hr h ⟨h, Int.le_refl _, .inr hm, .inl rfl⟩
def pclo (most rate prev : Int) : Int := max (-most) (prev - rate)
def pchi (most rate prev : Int) : Int := min most (prev + rate)
theorem pcan_le {most rate prev : Int} (h1 : 1 ≤ most) (h2 : 1 ≤ rate) (h3 : -most ≤ prev) (h4 : prev ≤ most) : pclo most rate prev ≤ pchi most rate prev := by
  unfold pclo pchi; omega
def pup (lo hi noise push most rate x prev : Int) : Int := phigh push rate (pclo most rate prev) (pchi most rate prev) (hi - noise - pclip x (-2000000) 2000000)
def pdn (lo hi noise push most rate x prev : Int) : Int := -(phigh push rate (-(pchi most rate prev)) (-(pclo most rate prev)) (pclip x (-2000000) 2000000 - noise - lo))

theorem pbounds_le {lo hi noise push most rate x prev : Int} (hr : 1 ≤ rate) (h1 : 1 ≤ most) (h3 : -most ≤ prev) (h4 : prev ≤ most) (hw : 2 * (noise + pbrake push rate most) ≤ hi - lo) :
    pdn lo hi noise push most rate x prev ≤ pup lo hi noise push most rate x prev := by
  have hc := pcan_le h1 hr h3 h4
  have g1 : -most ≤ pclo most rate prev := by unfold pclo; omega
  have g2 : pchi most rate prev ≤ most := by unfold pchi; omega
  unfold pdn pup
  generalize pclo most rate prev = a at *
  generalize pchi most rate prev = b at *
  generalize pclip x (-2000000) 2000000 = y at *
  by_cases h : pbrake push rate most ≤ hi - noise - y
  · have hm := pbrake_mono (push := push) hr g2
    rw [phigh_room hr hc (by omega)]
    have := phigh_lo (push := push) (rate := rate) (lo := -b) (hi := -a) (room := y - noise - lo) (by omega)
    omega
  · have hm := pbrake_mono (push := push) hr (by omega : -a ≤ most)
    rw [phigh_room (lo := -b) (hi := -a) hr (by omega) (by omega)]
    have := phigh_lo (push := push) (rate := rate) (lo := a) (hi := b) (room := hi - noise - y) hc
    omega
theorem pbounds_in {lo hi noise push most rate x prev : Int} (hr : 1 ≤ rate) (h1 : 1 ≤ most) (h3 : -most ≤ prev) (h4 : prev ≤ most) :
    pclo most rate prev ≤ pdn lo hi noise push most rate x prev ∧ pdn lo hi noise push most rate x prev ≤ pchi most rate prev ∧ pclo most rate prev ≤ pup lo hi noise push most rate x prev ∧ pup lo hi noise push most rate x prev ≤ pchi most rate prev := by
  have hc := pcan_le h1 hr h3 h4
  unfold pdn pup
  generalize pclo most rate prev = a at *
  generalize pchi most rate prev = b at *
  have k1 := phigh_lo (push := push) (rate := rate) (lo := -b) (hi := -a) (room := pclip x (-2000000) 2000000 - noise - lo) (by omega)
  have k2 := phigh_hi (push := push) (rate := rate) (lo := -b) (hi := -a) (room := pclip x (-2000000) 2000000 - noise - lo) (by omega)
  have k3 := phigh_lo (push := push) (rate := rate) (lo := a) (hi := b) (room := hi - noise - pclip x (-2000000) 2000000) hc
  have k4 := phigh_hi (push := push) (rate := rate) (lo := a) (hi := b) (room := hi - noise - pclip x (-2000000) 2000000) hc
  omega
end Go.Proofs.Ytdfpenjhpemokaa
