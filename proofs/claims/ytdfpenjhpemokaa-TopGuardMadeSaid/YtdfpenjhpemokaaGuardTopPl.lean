/-
  The plain law of the guard over many frames: the envelope is never left; far from the edges nothing is kept back. No program in sight.
-/
import Derived.Test.YtdfpenjhpemokaaBoundPl
set_option linter.unusedVariables false
set_option linter.unusedSimpArgs false
namespace Go.Proofs.Ytdfpenjhpemokaa
open Go.RowKit

def GInv (push rate lo hi x prev : Int) : Prop := x + pbrake push rate (prev - rate) ≤ hi ∧ lo ≤ x - pbrake push rate (-prev - rate)

theorem ginv_start {push rate lo hi x : Int} (hp : push ≤ rate) (h1 : lo ≤ x) (h2 : x ≤ hi) : GInv push rate lo hi x 0 := by
  unfold GInv
  rw [pbrake_zero (by omega : 0 - rate + push ≤ 0), pbrake_zero (by omega : -0 - rate + push ≤ 0)]
  omega
theorem ginv_in {push rate lo hi x prev : Int} (hr : 1 ≤ rate) (h : GInv push rate lo hi x prev) : lo ≤ x ∧ x ≤ hi := by
  have h1 := pbrake_nonneg (push := push) hr (prev - rate)
  have h2 := pbrake_nonneg (push := push) hr (-prev - rate)
  unfold GInv at h
  omega
theorem ginv_side {push rate most prev x up s q hi room : Int} (hr : 1 ≤ rate) (hp : 0 ≤ push) (hm : push ≤ most) (hx : x + pbrake push rate (prev - rate) ≤ hi) (hroom : room ≤ hi - x)
    (hup : up = pclo most rate prev ∨ pbrake push rate up ≤ room) (hs : s ≤ up) (hs2 : pclo most rate prev ≤ s) (hq : q ≤ push) : x + s + q + pbrake push rate (s - rate) ≤ hi := by
  have n0 := pbrake_nonneg (push := push) hr (prev - rate)
  by_cases h0 : 0 < s + push
  · have hst := pbrake_step hr h0
    have key : pbrake push rate s ≤ hi - x := by
      rcases hup with hup | hup
      · have e : s = pclo most rate prev := by omega
        unfold pclo at e
        by_cases h1 : -most ≤ prev - rate
        · have e2 : s = prev - rate := by omega
          rw [e2]; omega
        · have e2 : s = -most := by omega
          omega
      · have := pbrake_mono (push := push) hr hs
        omega
    omega
  · rw [pbrake_zero (by omega : s - rate + push ≤ 0)]
    omega

theorem ginv_step {lo hi noise push most rate x off prev want s q : Int} (hr : 1 ≤ rate) (hn : 0 ≤ noise) (hp : 0 ≤ push) (hm : push ≤ most) (h1 : 1 ≤ most) (hlo : -100000 ≤ lo) (hhi : hi ≤ 100000) (hn2 : noise ≤ 1000) (h3 : -most ≤ prev) (h4 : prev ≤ most) (hw : 2 * (noise + pbrake push rate most) ≤ hi - lo)
    (hI : GInv push rate lo hi x prev) (o1 : -noise ≤ off) (o2 : off ≤ noise) (q1 : -push ≤ q) (q2 : q ≤ push) (hs : pclip want (pdn lo hi noise push most rate (x + off) prev) (pup lo hi noise push most rate (x + off) prev) = s) :
    GInv push rate lo hi (x + s + q) s ∧ -most ≤ s ∧ s ≤ most ∧ -rate ≤ s - prev ∧ s - prev ≤ rate := by
  have hle := pbounds_le (lo := lo) (hi := hi) (noise := noise) (push := push) (x := x + off) hr h1 h3 h4 hw
  obtain ⟨b1, b2, b3, b4⟩ := pbounds_in (lo := lo) (hi := hi) (noise := noise) (push := push) (x := x + off) hr h1 h3 h4
  have s1 := pclip_lo want _ _ hle
  have s2 := pclip_hi want _ _ hle
  rw [hs] at s1 s2
  obtain ⟨i1, i2⟩ := ginv_in hr hI
  have hc := pcan_le h1 hr h3 h4
  have ex : pclip (x + off) (-2000000) 2000000 = x + off := pclip_id _ _ _ (by omega) (by omega)
  have hu := phigh_is (push := push) (rate := rate) (room := hi - noise - pclip (x + off) (-2000000) 2000000) hc
  have hd := phigh_is (push := push) (rate := rate) (lo := -(pchi most rate prev)) (hi := -(pclo most rate prev)) (room := pclip (x + off) (-2000000) 2000000 - noise - lo) (by omega)
  rw [ex] at hu hd
  have eu : pup lo hi noise push most rate (x + off) prev = phigh push rate (pclo most rate prev) (pchi most rate prev) (hi - noise - (x + off)) := by unfold pup; rw [ex]
  have ed : pdn lo hi noise push most rate (x + off) prev = -(phigh push rate (-(pchi most rate prev)) (-(pclo most rate prev)) (x + off - noise - lo)) := by unfold pdn; rw [ex]
  obtain ⟨_, _, u3, _⟩ := hu
  obtain ⟨_, _, d3, _⟩ := hd
  rw [← eu] at u3
  have ed' : phigh push rate (-(pchi most rate prev)) (-(pclo most rate prev)) (x + off - noise - lo) = -(pdn lo hi noise push most rate (x + off) prev) := by omega
  rw [ed'] at d3
  have k1 := ginv_side (q := q) hr hp hm hI.1 (by omega : hi - noise - (x + off) ≤ hi - x) u3 s2 (by omega) q2
  have em : pclo most rate (-prev) = -(pchi most rate prev) := by unfold pclo pchi; omega
  have k2 := ginv_side (prev := -prev) (x := -x) (s := -s) (q := -q) (up := -(pdn lo hi noise push most rate (x + off) prev)) (hi := -lo) (most := most) (room := x + off - noise - lo) hr hp hm (by have := hI.2; omega) (by omega) (by rw [em]; exact d3) (by omega) (by rw [em]; omega) (by omega)
  have c1 : -most ≤ pclo most rate prev := by unfold pclo; omega
  have c2 : prev - rate ≤ pclo most rate prev := by unfold pclo; omega
  have c3 : pchi most rate prev ≤ most := by unfold pchi; omega
  have c4 : pchi most rate prev ≤ prev + rate := by unfold pchi; omega
  refine ⟨⟨k1, by omega⟩, by omega, by omega, by omega, by omega⟩

end Go.Proofs.Ytdfpenjhpemokaa
