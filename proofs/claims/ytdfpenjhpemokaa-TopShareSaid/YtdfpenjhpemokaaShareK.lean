/-
  What parts take together at a level; the greatest level: contracts.
-/
import Derived.Test.YtdfpenjhpemokaaFix
import Derived.Test.YtdfpenjhpemokaaKit
import Derived.Test.YtdfpenjhpemokaaSxQ
import Derived.Test.YtdfpenjhpemokaaGuard
set_option linter.unusedVariables false
set_option linter.unusedSimpArgs false
namespace Go.Proofs.Ytdfpenjhpemokaa
open Go.RowKit
abbrev Part := Option (Int × Int)
def partV : Part → Value
  | none => .iface 250 (.agg #[])
  | some (lo, hi) => .iface 251 (.agg #[.int .i64 lo, .int .i64 hi])
def pat : Part → Int → Int
  | none, _ => 0
  | some (lo, hi), x => pclip x lo hi
def ptot (ps : Nat → Part) (x : Int) : Nat → Int
  | 0 => 0
  | k + 1 => ptot ps x k + pat (ps k) x
def PartFine : Part → Prop
  | none => True
  | some (lo, hi) => -1000 ≤ lo ∧ lo ≤ 1000 ∧ -1000 ≤ hi ∧ hi ≤ 1000
def PartCells (w : World) (b n : Nat) (ps : Nat → Part) : Prop :=
  b < w.heap.size ∧ ∀ i, i < n → w.cell? ⟨b, i, none⟩ = some (partV (ps i))
theorem PartCells.below {w w' : World} {b n : Nat} {ps : Nat → Part} (h : PartCells w b n ps) (hb : Below w.heap.size w w') : PartCells w' b n ps :=
  ⟨Nat.lt_of_lt_of_le h.1 hb.size, fun i hi => (hb.cell (p := ⟨b, _, none⟩) h.1).trans (h.2 i hi)⟩
theorem pat_bd {p : Part} (h : PartFine p) (x : Int) : -1000 ≤ pat p x ∧ pat p x ≤ 1000 := by
  unfold PartFine at h
  unfold pat
  split
  · omega
  · simp only at h
    unfold pclip
    (repeat' split) <;> omega
theorem ptot_bd {ps : Nat → Part} (h : ∀ k, PartFine (ps k)) (x : Int) : ∀ n : Nat, -1000 * n ≤ ptot ps x n ∧ ptot ps x n ≤ 1000 * n
  | 0 => by simp [ptot]
  | k + 1 => by
    have h1 := ptot_bd h x k
    have h2 := pat_bd (h k) x
    simp only [ptot]
    omega
set_option maxHeartbeats 400000 in
theorem shGone (x : Int) (w : World) : Calls Try.prog 214 #[.agg #[], .int .i64 x] w fun e w' => e = .returned (.int .i64 0) ∧ Below w.heap.size w w' := by
  go_enter Try.func214, Try.ntmps214
  go_wp2
  go_ret
  exact ⟨rfl, by (repeat' (first | (with_reducible exact Below.refl _ _) | (with_reducible assumption) | (with_reducible refine Below.alloc ?_ ?_ _) | (with_reducible refine Below.drew ?_) | (with_reducible refine below_drewN ?_ _) | (with_reducible refine Below.setCell ?_ ?_ _) | (with_reducible refine Below.trans ?_ (Below.mono (by assumption) ?_)) | omega | (simp; omega) | (simp; done)))⟩
set_option maxHeartbeats 400000 in
theorem shAble (lo hi x : Int) (w : World) : Calls Try.prog 215 #[.agg #[.int .i64 lo, .int .i64 hi], .int .i64 x] w fun e w' => e = .returned (.int .i64 (pat (some (lo, hi)) x)) ∧ Below w.heap.size w w' := by
  go_enter Try.func215, Try.ntmps215
  go_wp2_with (go_at_call 133; ((with_reducible refine (fixClip _ _ _ _).mono ?_); rintro e w' ⟨rfl, rfl⟩))
  go_ret
  exact ⟨rfl, by (repeat' (first | (with_reducible exact Below.refl _ _) | (with_reducible assumption) | (with_reducible refine Below.alloc ?_ ?_ _) | (with_reducible refine Below.drew ?_) | (with_reducible refine below_drewN ?_ _) | (with_reducible refine Below.setCell ?_ ?_ _) | (with_reducible refine Below.trans ?_ (Below.mono (by assumption) ?_)) | omega | (simp; omega) | (simp; done)))⟩
theorem atGone (n : Nat) (v : Value) (w : World) : (method (n + 1) 250 v "At").run Try.prog w = .ok (214, v) w := Sx.run_method (by kernel_rfl) n v w
theorem atAble (n : Nat) (v : Value) (w : World) : (method (n + 1) 251 v "At").run Try.prog w = .ok (215, v) w := Sx.run_method (by kernel_rfl) n v w
theorem goGone (args : Array Value) (w : World) : (callFunc 214 args).run Try.prog w = .ok (.enter 214 args) w := Sx.run_callFunc (by kernel_rfl) args w
theorem goAble (args : Array Value) (w : World) : (callFunc 215 args).run Try.prog w = .ok (.enter 215 args) w := Sx.run_callFunc (by kernel_rfl) args w
set_option maxRecDepth 100000 in
set_option maxHeartbeats 400000 in
theorem shTotal (b c n : Nat) (ps : Nat → Part) (x : Int) (w : World) (hn : n ≤ 1000) (hf : ∀ k, PartFine (ps k)) (hc : PartCells w b n ps) :
    Calls Try.prog 157 #[.slice (some ⟨b, 0, none⟩) n c, .int .i64 x] w fun e w' => e = .returned (.int .i64 (ptot ps x n)) ∧ Below w.heap.size w w' := by
  have HC := Lib.hid hc
  have HF := Lib.hid hf
  have hbl := hc.1
  clear hc hf
  go_enter Try.func157, Try.ntmps157
  go_wp2
  go_loopw [5, 10] (fun s i wr => ∃ k : Nat, k ≤ n ∧ i = .int .i64 k ∧ s = .int .i64 (ptot ps x k) ∧ Below w.heap.size w wr) (fun _ i _ => n - (intOf i).toNat)
  case atStart => exact ⟨0, Nat.zero_le _, rfl, rfl, Below.refl _ _⟩
  case round =>
    obtain ⟨k, hk, rfl, rfl, hbw⟩ := hrel
    by_cases hlt : k < n
    · have hcc := (HC.out.below hbw).2 k hlt
      have hlw : b < wr.heap.size := Nat.lt_of_lt_of_le hbl hbw.size
      have hsz := hbw.size
      have hbd := ptot_bd HF.out x k
      have hpd := pat_bd (HF.out k) x
      have hp : ptot ps x (k + 1) = ptot ps x k + pat (ps k) x := rfl
      have HP := Lib.hid hp
      clear hp
      generalize ps k = p at *
      cases p with
      | none =>
        simp only [partV] at hcc
        go_wp2_with fail
        have hz : pat none x = 0 := rfl
        rw [atGone]
        simp only [Result.andThen]
        rw [goGone]
        go_wp2_with fail
        refine (shGone _ _).mono ?_
        rintro e w1 ⟨rfl, hb⟩
        go_wp2_with fail
        all_goals
          go_roundw
          case rel => exact ⟨k + 1, by omega, by go_num, by first | (rw [HP.out]; done) | (rw [HP.out]; go_num), by (repeat' (first | (with_reducible exact Below.refl _ _) | (with_reducible assumption) | (with_reducible refine Below.alloc ?_ ?_ _) | (with_reducible refine Below.drew ?_) | (with_reducible refine below_drewN ?_ _) | (with_reducible refine Below.setCell ?_ ?_ _) | (with_reducible refine Below.trans ?_ (Below.mono (by assumption) ?_)) | omega | (simp; omega) | (simp; done)))⟩
          case measure => simp [intOf]; omega
      | some q =>
        obtain ⟨lo, hi⟩ := q
        simp only [partV] at hcc
        go_wp2_with fail
        rw [atAble]
        simp only [Result.andThen]
        rw [goAble]
        go_wp2_with fail
        refine (shAble _ _ _ _).mono ?_
        rintro e w1 ⟨rfl, hb⟩
        go_wp2_with fail
        all_goals
          go_roundw
          case rel => exact ⟨k + 1, by omega, by go_num, by first | (rw [HP.out]; done) | (rw [HP.out]; go_num), by (repeat' (first | (with_reducible exact Below.refl _ _) | (with_reducible assumption) | (with_reducible refine Below.alloc ?_ ?_ _) | (with_reducible refine Below.drew ?_) | (with_reducible refine below_drewN ?_ _) | (with_reducible refine Below.setCell ?_ ?_ _) | (with_reducible refine Below.trans ?_ (Below.mono (by assumption) ?_)) | omega | (simp; omega) | (simp; done)))⟩
          case measure => simp [intOf]; omega
    · have hkn : k = n := by omega
      subst hkn
      go_wp2
      go_ret
      exact ⟨rfl, hbw⟩
set_option maxHeartbeats 400000 in
theorem shClo (m b c n : Nat) (ps : Nat → Part) (x : Int) (w : World) (hn : n ≤ 1000) (hf : ∀ k, PartFine (ps k)) (hc : PartCells w b n ps) (hm : w.cell? ⟨m, 0, none⟩ = some (.slice (some ⟨b, 0, none⟩) n c)) :
    Calls Try.prog 159 #[.int .i64 x, .pointer (some ⟨m, 0, none⟩)] w fun e w' => e = .returned (.int .i64 (ptot ps x n)) ∧ Below w.heap.size w w' := by
  go_enter Try.func159, Try.ntmps159
  go_wp2_with (go_at_call 157; ((with_reducible refine (shTotal _ _ _ _ _ _ hn hf hc).mono ?_); rintro e w' ⟨rfl, hb⟩; obtain ⟨hcb, hfb⟩ := bcell hb))
  go_ret
  exact ⟨rfl, by (repeat' (first | (with_reducible exact Below.refl _ _) | (with_reducible assumption) | (with_reducible refine Below.alloc ?_ ?_ _) | (with_reducible refine Below.drew ?_) | (with_reducible refine below_drewN ?_ _) | (with_reducible refine Below.setCell ?_ ?_ _) | (with_reducible refine Below.trans ?_ (Below.mono (by assumption) ?_)) | omega | (simp; omega) | (simp; done)))⟩
theorem pat_mono (p : Part) {x y : Int} (h : x ≤ y) : pat p x ≤ pat p y := by
  unfold pat
  split
  · omega
  · unfold pclip
    (repeat' split) <;> omega
theorem ptot_mono (ps : Nat → Part) {x y : Int} (h : x ≤ y) : ∀ n : Nat, ptot ps x n ≤ ptot ps y n
  | 0 => by simp [ptot]
  | k + 1 => by
    have h1 := ptot_mono ps h k
    have h2 := pat_mono (ps k) h
    simp only [ptot]
    omega
def plevN (tot : Int → Int) (sum lo : Int) : Nat → Int
  | 0 => lo
  | k + 1 => if tot (lo + (k + 1)) ≤ sum then lo + (k + 1) else plevN tot sum lo k
def plev (tot : Int → Int) (sum most : Int) : Int := plevN tot sum (-most) (2 * most).toNat
theorem plevN_eq {tot : Int → Int} (hm : ∀ x y, x ≤ y → tot x ≤ tot y) {sum lo L : Int} : ∀ k : Nat, lo ≤ L → L ≤ lo + k → (L = lo ∨ tot L ≤ sum) → (L = lo + k ∨ sum < tot (L + 1)) → plevN tot sum lo k = L
  | 0, h1, h2, _, _ => by simp only [plevN]; omega
  | k + 1, h1, h2, h3, h4 => by
    simp only [plevN]
    by_cases he : L = lo + ((k : Int) + 1)
    · subst he
      rw [if_pos (by rcases h3 with h | h; omega; exact h)]
    · have h5 : sum < tot (L + 1) := by rcases h4 with h | h; (exact absurd h (by simpa using he)); exact h
      have := hm (L + 1) (lo + ((k : Int) + 1)) (by push_cast at h2; omega)
      rw [if_neg (by omega)]
      exact plevN_eq hm k h1 (by push_cast at h2; omega) h3 (.inr h5)
theorem plev_eq {tot : Int → Int} (hm : ∀ x y, x ≤ y → tot x ≤ tot y) {sum most L : Int} (h0 : 0 ≤ most) (h1 : -most ≤ L) (h2 : L ≤ most) (h3 : L = -most ∨ tot L ≤ sum) (h4 : L = most ∨ sum < tot (L + 1)) : plev tot sum most = L :=
  plevN_eq hm _ h1 (by omega) h3 (by rcases h4 with h | h; (exact .inl (by omega)); exact .inr h)
set_option maxRecDepth 100000 in
set_option maxHeartbeats 400000 in
theorem shLevel (m b c n : Nat) (ps : Nat → Part) (sum most : Int) (w : World) (hn : n ≤ 1000) (h0 : 0 ≤ most) (h1 : most ≤ 1000) (hf : ∀ k, PartFine (ps k)) (hc : PartCells w b n ps) (hl : m < w.heap.size) (hm : w.cell? ⟨m, 0, none⟩ = some (.slice (some ⟨b, 0, none⟩) n c)) :
    Calls Try.prog 158 #[.int .i64 sum, .int .i64 most, .func (.func 159) #[] #[.pointer (some ⟨m, 0, none⟩)]] w fun e w' => e = .returned (.int .i64 (plev (fun x => ptot ps x n) sum most)) ∧ Below w.heap.size w w' := by
  have HC := Lib.hid hc
  have HM := Lib.hid hm
  clear hc hm
  have HMo := Lib.hid (fun x y (h : x ≤ y) => ptot_mono ps h n)
  go_enter Try.func158, Try.ntmps158
  go_wp2
  go_loopw [7, 8] (fun s i wr => ∃ x y : Int, s = .int .i64 x ∧ i = .int .i64 y ∧ -most ≤ x ∧ x ≤ y ∧ y ≤ most ∧ Hid (x = -most ∨ ptot ps x n ≤ sum) ∧ Hid (y = most ∨ sum < ptot ps (y + 1) n) ∧ Below w.heap.size w wr) (fun a b _ => (intOf b - intOf a).toNat)
  case atStart => exact ⟨-most, most, by go_num, rfl, by omega, by omega, by omega, .inl rfl, .inl rfl, Below.refl _ _⟩
  case round =>
    obtain ⟨x, y, rfl, rfl, g1, g2, g3, g4, g5, hbw⟩ := hrel
    by_cases hlt : x < y
    · have hsz := hbw.size
      have hcw := HC.out.below hbw
      have hmw : wr.cell? ⟨m, 0, none⟩ = some (.slice (some ⟨b, 0, none⟩) n c) := (hbw.cell (p := ⟨m, _, none⟩) hl).trans HM.out
      have hmono := HMo.out
      have k1 : x < (x + y + 1) / 2 := by omega
      have k2 : (x + y + 1) / 2 ≤ y := by omega
      clear hmono
      by_cases hle : ptot ps ((x + y + 1) / 2) n ≤ sum
      · go_wp2_with (go_at_call 159; ((with_reducible refine (shClo _ _ _ _ _ _ _ hn hf hcw hmw).mono ?_); rintro e w' ⟨rfl, hb⟩; obtain ⟨hcb, hfb⟩ := bcell hb))
        all_goals
          go_roundw
          case rel => exact ⟨_, _, rfl, rfl, by omega, by omega, by omega, .inr hle, g5, by (repeat' (first | (with_reducible exact Below.refl _ _) | (with_reducible assumption) | (with_reducible refine Below.alloc ?_ ?_ _) | (with_reducible refine Below.drew ?_) | (with_reducible refine below_drewN ?_ _) | (with_reducible refine Below.setCell ?_ ?_ _) | (with_reducible refine Below.trans ?_ (Below.mono (by assumption) ?_)) | omega | (simp; omega) | (simp; done)))⟩
          case measure => simp [intOf]; omega
      · go_wp2_with (go_at_call 159; ((with_reducible refine (shClo _ _ _ _ _ _ _ hn hf hcw hmw).mono ?_); rintro e w' ⟨rfl, hb⟩; obtain ⟨hcb, hfb⟩ := bcell hb))
        all_goals
          go_roundw
          case rel => exact ⟨_, _, rfl, rfl, by omega, by omega, by omega, g4, .inr (by rw [Int.sub_add_cancel]; omega), by (repeat' (first | (with_reducible exact Below.refl _ _) | (with_reducible assumption) | (with_reducible refine Below.alloc ?_ ?_ _) | (with_reducible refine Below.drew ?_) | (with_reducible refine below_drewN ?_ _) | (with_reducible refine Below.setCell ?_ ?_ _) | (with_reducible refine Below.trans ?_ (Below.mono (by assumption) ?_)) | omega | (simp; omega) | (simp; done)))⟩
          case measure => simp [intOf]; omega
    · have hxy : x = y := by omega
      subst hxy
      have := plev_eq HMo.out h0 g1 g3 g4.out g5.out
      go_wp2_with fail
      go_ret
      exact ⟨rfl, hbw⟩
end Go.Proofs.Ytdfpenjhpemokaa
