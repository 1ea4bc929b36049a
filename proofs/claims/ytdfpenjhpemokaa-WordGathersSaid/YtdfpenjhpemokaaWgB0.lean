/-
  R.SameReadings and R.Gathered: contracts.
-/
import Derived.Test.YtdfpenjhpemokaaWgA
import Derived.Test.YtdfpenjhpemokaaWord4
import Derived.Test.YtdfpenjhpemokaaWord2
import Derived.Test.YtdfpenjhpemokaaDice
import Derived.Laws.AppendOwnNone
import Derived.Laws.OwnMore
set_option linter.unusedVariables false
namespace Go.Proofs.Ytdfpenjhpemokaa
open Go.RowKit
set_option maxRecDepth 100000 in
set_option maxHeartbeats 1000000 in
theorem refSame (v1 v2 : Value) (L : List Rd) (w : World) (g1 : RdRow w v1 L) (g2 : RdRow w v2 L) (hn : L.length ≤ 1000) :
    Calls Try.prog 121 #[v1, v2] w fun e w' => e = .returned (.bool true) ∧ Below w.heap.size w w' := by
  obtain ⟨A, c, rfl, hr⟩ := g1
  obtain ⟨A', c', rfl, hr'⟩ := g2
  have HR := Lib.hid hr
  have HR' := Lib.hid hr'
  clear hr hr'
  obtain ⟨n, hN⟩ : ∃ n, L.length = n := ⟨_, rfl⟩
  have HL : Hid (∀ k, k < n → ∃ r, L[k]? = some r) := fun k hk => ⟨L[k]'(by omega), List.getElem?_eq_getElem (by omega)⟩
  rw [hN] at hn ⊢
  clear hN
  go_enter Try.func121, Try.ntmps121
  go_wp2_with fail
  go_loopw [5] (fun i wr => ∃ k : Nat, k ≤ n ∧ i = .int .i64 k ∧ Below w.heap.size w wr) (fun i _ => n - (intOf i).toNat)
  case atStart => exact ⟨0, Nat.zero_le _, rfl, Below.refl _ _⟩
  case round =>
    obtain ⟨k, hkn, rfl, hbw⟩ := hrel
    have hsz := hbw.size
    by_cases hlt : k < n
    · obtain ⟨r, hr⟩ := HL.out k hlt
      obtain ⟨b, off, rfl, hbl, c0, c1, c2, c3⟩ := HR.out k r hr
      obtain ⟨b', off', rfl, hbl', d0, d1, d2, d3⟩ := HR'.out k r hr
      have e0 := (hbw.cell (p := ⟨b, off + k * 4, none⟩) hbl).trans c0
      have e1 := (hbw.cell (p := ⟨b, off + k * 4 + 1, none⟩) hbl).trans c1
      have e2 := (hbw.cell (p := ⟨b, off + k * 4 + 2, none⟩) hbl).trans c2
      have e3 := (hbw.cell (p := ⟨b, off + k * 4 + 3, none⟩) hbl).trans c3
      have f0 := (hbw.cell (p := ⟨b', off' + k * 4, none⟩) hbl').trans d0
      have f1 := (hbw.cell (p := ⟨b', off' + k * 4 + 1, none⟩) hbl').trans d1
      have f2 := (hbw.cell (p := ⟨b', off' + k * 4 + 2, none⟩) hbl').trans d2
      have f3 := (hbw.cell (p := ⟨b', off' + k * 4 + 3, none⟩) hbl').trans d3
      clear c0 c1 c2 c3 d0 d1 d2 d3 hr
      generalize r.l = rl at *
      generalize r.s = rs at *
      generalize r.st = rt at *
      generalize r.d = rd at *
      go_upto_region 6 with fail
      go_region
      go_wp2_with fail
      go_roundw
      case rel => exact ⟨k + 1, by omega, by go_num, by (repeat' (first | (with_reducible exact Below.refl _ _) | (with_reducible assumption) | (with_reducible refine Below.alloc ?_ ?_ _) | (with_reducible refine Below.drew ?_) | (with_reducible refine below_drewN ?_ _) | (with_reducible refine Below.setCell ?_ ?_ _) | (with_reducible refine Below.trans ?_ (Below.mono (by assumption) ?_)) | omega | (simp; omega) | (simp; done)))⟩
      case measure => simp [intOf]; omega
    · have hkn : k = n := by omega
      subst hkn
      go_wp2_with fail
      go_ret
      exact ⟨rfl, by (repeat' (first | (with_reducible exact Below.refl _ _) | (with_reducible assumption) | (with_reducible refine Below.alloc ?_ ?_ _) | (with_reducible refine Below.drew ?_) | (with_reducible refine below_drewN ?_ _) | (with_reducible refine Below.setCell ?_ ?_ _) | (with_reducible refine Below.trans ?_ (Below.mono (by assumption) ?_)) | omega | (simp; omega) | (simp; done)))⟩
theorem rd_below {w w1 : World} {base : Nat} {e : TypeId} {size : Nat} {v : Value} {n : Nat} {xs : List Value} (h : w.ownsRow base e size v n xs) (hb : Below w.heap.size w w1) : w1.ownsRow base e size v n xs := by
  obtain ⟨h1, h2⟩ := h
  refine ⟨h1, ?_⟩
  rcases h2 with h2 | ⟨g, cap, cur, a1, a2, a3, a4, a5, a6, a7⟩
  · exact .inl h2
  · exact .inr ⟨g, cap, cur, a1, a2, (hb.block g (Array.getElem?_eq_some_iff.1 a3).1).trans a3, a4, a5, a6, a7⟩
theorem rd_low {w : World} {base base' : Nat} {e : TypeId} {size : Nat} {v : Value} {n : Nat} {xs : List Value} (h : w.ownsRow base e size v n xs) (hb : base' ≤ base) : w.ownsRow base' e size v n xs := by
  obtain ⟨h1, h2⟩ := h
  refine ⟨h1, ?_⟩
  rcases h2 with h2 | ⟨g, cap, cur, a1, a2, a3⟩
  · exact .inl h2
  · exact .inr ⟨g, cap, cur, a1, Nat.le_trans hb a2, a3⟩
theorem rd_no1 {w : World} {ad : Addr} : ∀ (j : Nat) (u : Value), ([] : List Value)[j]? = some u → w.cell? (ad.add j) = some u := fun j u hu => by simp at hu
theorem rd_no2 : ∀ u ∈ ([] : List Value), u.oneCell' = true := fun u hu => by simp at hu
theorem rd_add (g a b : Nat) : (⟨g, a, none⟩ : Addr).add b = ⟨g, a + b, none⟩ := by unfold Addr.add; split <;> simp_all
theorem rd_add0 (g b : Nat) : (⟨g, 0, none⟩ : Addr).add b = ⟨g, b, none⟩ := by rw [rd_add, Nat.zero_add]
theorem rd_form {w : World} {base t : Nat} {v : Value} {n : Nat} {L : List Rd} (h : w.ownsRow base t 4 v n (rdL L)) (hn : 0 < n) : ∃ g cap, v = .slice (some ⟨g, 0, none⟩) n cap ∧ n ≤ cap ∧ base ≤ g ∧ g < w.heap.size := by
  rcases h.2 with ⟨_, h0⟩ | ⟨g, cap, cur, rfl, hb, _, hc, _⟩
  · omega
  · exact ⟨g, cap, rfl, hc, hb, (h.lt g rfl).2⟩
theorem rd_shape {w : World} {base t : Nat} {v : Value} {n : Nat} {L : List Rd} (h : w.ownsRow base t 4 v n (rdL L)) : (v = .slice none 0 0 ∧ n = 0) ∨ ∃ g cap, v = .slice (some ⟨g, 0, none⟩) n cap ∧ n ≤ cap ∧ base ≤ g ∧ g < w.heap.size := by
  rcases h.2 with h0 | ⟨g, cap, cur, rfl, hb, _, hc, _⟩
  · exact .inl h0
  · exact .inr ⟨g, cap, rfl, hc, hb, (h.lt g rfl).2⟩
theorem rd_cell {w : World} {base t : Nat} {g n cap : Nat} {L : List Rd} (h : w.ownsRow base t 4 (.slice (some ⟨g, 0, none⟩) n cap) n (rdL L)) {j : Nat} {q : Rd} (hq : L[j]? = some q) :
    w.cell? ⟨g, j * 4, none⟩ = some (.int .i64 q.l) ∧ w.cell? ⟨g, j * 4 + 1, none⟩ = some (.int .i64 q.s) ∧ w.cell? ⟨g, j * 4 + 2, none⟩ = some (.int .i64 q.st) ∧ w.cell? ⟨g, j * 4 + 3, none⟩ = some (.int .i64 q.d) := by
  have hadd : ∀ g j, (⟨g, 0, none⟩ : Addr).add j = ⟨g, j, none⟩ := fun g j => by unfold Addr.add; split <;> simp_all
  obtain ⟨e0, e1, e2, e3⟩ := rdL_at L j q hq
  have f0 := h.cells (g := g) rfl _ _ e0
  have f1 := h.cells (g := g) rfl _ _ e1
  have f2 := h.cells (g := g) rfl _ _ e2
  have f3 := h.cells (g := g) rfl _ _ e3
  rw [hadd] at f0 f1 f2 f3
  exact ⟨f0, f1, f2, f3⟩
def WdCells (w : World) (A : Option Addr) (n : Nat) (f : Nat → Nat) : Prop := ∀ k, k < n → f k < 4294967296 ∧ ∃ b off, A = some ⟨b, off, none⟩ ∧ b < w.heap.size ∧ w.cell? ⟨b, off + k, none⟩ = some (.int .u32 (f k))
theorem infoRd : (Try.prog.info? 27).map (fun i => (i.zero, i.size, i.bytes)) = some (some (.agg #[.int .i64 0, .int .i64 0, .int .i64 0, .int .i64 0]), 4, 32) := by kernel_rfl
theorem refRd (x : Nat) (w : World) (hx : x < 4294967296) : Calls Try.prog 32 #[.int .u32 x] w fun e w' => e = .returned (.agg #[.int .i64 (rdOf x).l, .int .i64 (rdOf x).s, .int .i64 (rdOf x).st, .int .i64 (rdOf x).d]) ∧ Below w.heap.size w w' :=
  refReadingOf x _ _ _ _ w hx rfl (fun _ => rfl) (fun _ => rfl) (fun _ => rfl)
end Go.Proofs.Ytdfpenjhpemokaa
