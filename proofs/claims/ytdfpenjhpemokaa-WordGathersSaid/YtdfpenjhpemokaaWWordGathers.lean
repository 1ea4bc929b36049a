/-
  The law WordGathers walked.
-/
import Derived.Test.YtdfpenjhpemokaaWgB
import Derived.Test.YtdfpenjhpemokaaWgC
import Derived.Test.YtdfpenjhpemokaaOpen
set_option linter.unusedVariables false
namespace Go.Proofs.Ytdfpenjhpemokaa
open Go.RowKit
set_option maxRecDepth 100000 in
set_option maxHeartbeats 2000000 in
theorem wordGathers_huge (A : Option Addr) (c n : Nat) (l s : Int) (w : World) (hn : 200 < n) (hn2 : n ≤ 9223372036854775807) :
    Calls Try.prog 22 #[.slice A n c, .int .i64 l, .int .i64 s] w fun e w' => e = .returned (.bool true) ∧ Below w.heap.size w w' := by
  go_enter Try.func22, Try.ntmps22
  go_wp2_with fail
  go_ret
  exact ⟨rfl, by (repeat' (first | (with_reducible exact Below.refl _ _) | (with_reducible assumption) | (with_reducible refine Below.alloc ?_ ?_ _) | (with_reducible refine Below.drew ?_) | (with_reducible refine below_drewN ?_ _) | (with_reducible refine Below.setCell ?_ ?_ _) | (with_reducible refine Below.trans ?_ (Below.mono (by assumption) ?_)) | omega | (simp; omega) | (simp; done)))⟩
theorem rdRow_nil (w : World) : RdRow w (.slice none 0 0) [] := ⟨none, 0, rfl, fun k r h => by simp at h⟩
set_option maxRecDepth 100000 in
set_option maxHeartbeats 2000000 in
theorem wordGathers_long (A : Option Addr) (c n : Nat) (l s : Int) (w : World) (hn : 64 < n) (hn2 : n ≤ 200) :
    Calls Try.prog 22 #[.slice A n c, .int .i64 l, .int .i64 s] w fun e w' => e = .returned (.bool true) ∧ Below w.heap.size w w' := by
  have HL := Lib.hid fun w => gatherLong A c n w hn (by omega)
  have HWh : Hid (∀ w, Calls Try.prog 30 #[.bool true, .int .i64 2] w fun e w' => e = .returned (.int .i64 2) ∧ w = w') := fun w => refWhen true 2 w
  have cd : decide ((64 : Int) < (n : Int)) = true := decide_eq_true (by omega)
  go_enter Try.func22, Try.ntmps22
  go_upto_region 9 with (first | (go_at_call 30; ((with_reducible refine (HWh.out _).mono ?_); rintro e w4 ⟨rfl, rfl⟩)) | (go_at_call 118; ((with_reducible refine (HL.out _).mono ?_); rintro e w5 ⟨rfl, hb5⟩; have hz5 := hb5.size)) | fail)
  go_upto_region 10 with (first | (go_at_call 119; ((with_reducible refine (refFound _ [] l s _ (rdRow_nil w5) (by simp)).mono ?_); rintro e w6 ⟨⟨r, o, rfl, f1⟩, hb6⟩; have hz6 := hb6.size)) | fail)
  have HF := Lib.hid f1
  refine wp_world (fun ω => Below w.heap.size w ω ∧ RdRow ω (.slice none 0 0) [] ∧ RdRow ω (.slice none 0 0) [] ∧ w6.heap.size < ω.heap.size ∧ ω.cell? ⟨w6.heap.size, 0, none⟩ = some (.int .i64 r.l) ∧ ω.cell? ⟨w6.heap.size, 1, none⟩ = some (.int .i64 r.s) ∧ ω.cell? ⟨w6.heap.size, 2, none⟩ = some (.int .i64 r.st) ∧ ω.cell? ⟨w6.heap.size, 3, none⟩ = some (.int .i64 r.d)) ⟨by (repeat' (first | (with_reducible exact Below.refl _ _) | (with_reducible assumption) | (with_reducible refine Below.alloc ?_ ?_ _) | (with_reducible refine Below.drew ?_) | (with_reducible refine below_drewN ?_ _) | (with_reducible refine Below.setCell ?_ ?_ _) | (with_reducible refine Below.trans ?_ (Below.mono (by assumption) ?_)) | omega | (simp; omega) | (simp; done))), ((rdRow_nil w5).below hb6).below (Below.alloc (Below.refl _ _) (Nat.le_refl _) _), ((rdRow_nil w5).below hb6).below (Below.alloc (Below.refl _ _) (Nat.le_refl _) _), by simp, World.cell?_alloc_mark w6 _ _ _ 0, World.cell?_alloc_mark w6 _ _ _ 1, World.cell?_alloc_mark w6 _ _ _ 2, World.cell?_alloc_mark w6 _ _ _ 3⟩ ?_
  clear f1 hb6 hz6 hb5 hz5 HL HWh
  generalize w6.heap.size = b1 at *
  rintro w8 ⟨hB8, hW8, hG8, hs8, c0, c1, c2, c3⟩
  have hsz8 := hB8.size
  have HW8 := Lib.hid hW8
  have HG8 := Lib.hid hG8
  clear hW8 hG8
  go_upto_region 11 with (first | (go_at_call 120; ((with_reducible refine (wordFind _ [] l s _ HW8.out (by simp)).mono ?_); rintro e w9 ⟨⟨r2, o2, rfl, f2⟩, hb9⟩; obtain ⟨rfl, rfl⟩ := f2.uniq HF.out; have hz9 := hb9.size)) | fail)
  have d0 := (hb9.cell (p := ⟨b1, 0, none⟩) hs8).trans c0
  have d1 := (hb9.cell (p := ⟨b1, 1, none⟩) hs8).trans c1
  have d2 := (hb9.cell (p := ⟨b1, 2, none⟩) hs8).trans c2
  have d3 := (hb9.cell (p := ⟨b1, 3, none⟩) hs8).trans c3
  have hsz9 : w8.heap.size ≤ w9.heap.size := hb9.size
  have ha9 : Below w9.heap.size w9 (w9.alloc (.cells #[.int .i64 r.l, .int .i64 r.s, .int .i64 r.st, .int .i64 r.d] 27)) := Below.alloc (Below.refl _ _) (Nat.le_refl _) _
  refine wp_world (fun ω => Below w.heap.size w ω ∧ RdRow ω (.slice none 0 0) [] ∧ RdRow ω (.slice none 0 0) [] ∧ b1 < ω.heap.size ∧ w9.heap.size < ω.heap.size ∧ ω.cell? ⟨b1, 0, none⟩ = some (.int .i64 r.l) ∧ ω.cell? ⟨b1, 1, none⟩ = some (.int .i64 r.s) ∧ ω.cell? ⟨b1, 2, none⟩ = some (.int .i64 r.st) ∧ ω.cell? ⟨b1, 3, none⟩ = some (.int .i64 r.d) ∧ ω.cell? ⟨w9.heap.size, 0, none⟩ = some (.int .i64 r.l) ∧ ω.cell? ⟨w9.heap.size, 1, none⟩ = some (.int .i64 r.s) ∧ ω.cell? ⟨w9.heap.size, 2, none⟩ = some (.int .i64 r.st) ∧ ω.cell? ⟨w9.heap.size, 3, none⟩ = some (.int .i64 r.d)) ⟨by (repeat' (first | (with_reducible exact Below.refl _ _) | (with_reducible assumption) | (with_reducible refine Below.alloc ?_ ?_ _) | (with_reducible refine Below.drew ?_) | (with_reducible refine below_drewN ?_ _) | (with_reducible refine Below.setCell ?_ ?_ _) | (with_reducible refine Below.trans ?_ (Below.mono (by assumption) ?_)) | omega | (simp; omega) | (simp; done))), (HW8.out.below hb9).below ha9, (HG8.out.below hb9).below ha9, by simp; omega, by simp, cell_alloc_keep d0, cell_alloc_keep d1, cell_alloc_keep d2, cell_alloc_keep d3, World.cell?_alloc_mark w9 _ _ _ 0, World.cell?_alloc_mark w9 _ _ _ 1, World.cell?_alloc_mark w9 _ _ _ 2, World.cell?_alloc_mark w9 _ _ _ 3⟩ ?_
  clear hb9 hz9 d0 d1 d2 d3 c0 c1 c2 c3 ha9
  generalize w9.heap.size = b2 at *
  rintro w10 ⟨hB10, hW10, hG10, hs10, ht10, c0, c1, c2, c3, d0, d1, d2, d3⟩
  have hsz10 := hB10.size
  have HW10 := Lib.hid hW10
  have HG10 := Lib.hid hG10
  clear hW10 hG10
  generalize r.l = rl at *
  generalize r.s = rs at *
  generalize r.st = rt at *
  generalize r.d = rd at *
  go_wp2_with (first | (go_at_call 34; ((with_reducible refine (refIs _ _ _).mono ?_); rintro e w' ⟨rfl, rfl⟩)) | (go_at_call 121; ((with_reducible refine (refSame _ _ [] _ HG10.out HW10.out (by simp)).mono ?_); rintro e w11 ⟨rfl, hb11⟩; have hz11 := hb11.size; have g0 := (hb11.cell (p := ⟨b1, 0, none⟩) hs10).trans c0; have g1 := (hb11.cell (p := ⟨b1, 1, none⟩) hs10).trans c1; have g2 := (hb11.cell (p := ⟨b1, 2, none⟩) hs10).trans c2; have g3 := (hb11.cell (p := ⟨b1, 3, none⟩) hs10).trans c3; have h0 := (hb11.cell (p := ⟨b2, 0, none⟩) ht10).trans d0; have h1 := (hb11.cell (p := ⟨b2, 1, none⟩) ht10).trans d1; have h2 := (hb11.cell (p := ⟨b2, 2, none⟩) ht10).trans d2; have h3 := (hb11.cell (p := ⟨b2, 3, none⟩) ht10).trans d3)) | fail)
  go_ret
  exact ⟨by simp, by (repeat' (first | (with_reducible exact Below.refl _ _) | (with_reducible assumption) | (with_reducible refine Below.alloc ?_ ?_ _) | (with_reducible refine Below.drew ?_) | (with_reducible refine below_drewN ?_ _) | (with_reducible refine Below.setCell ?_ ?_ _) | (with_reducible refine Below.trans ?_ (Below.mono (by assumption) ?_)) | omega | (simp; omega) | (simp; done)))⟩
set_option maxRecDepth 100000 in
set_option maxHeartbeats 2000000 in
theorem wordGathers_short (A : Option Addr) (c n : Nat) (f : Nat → Nat) (l s : Int) (w : World) (hn : n ≤ 64) (h : WdCells w A n f) :
    Calls Try.prog 22 #[.slice A n c, .int .i64 l, .int .i64 s] w fun e w' => e = .returned (.bool true) ∧ Below w.heap.size w w' := by
  have HG := Lib.hid (refGathered A c n f w (by omega) h)
  have HL : Hid (∀ w1, Below w.heap.size w w1 → Calls Try.prog 118 #[.slice A n c] w1 fun e w' => (∃ v, e = .returned (.tuple #[v, .int .i64 (gbad f n), errV 0]) ∧ RdRow w' v (gath f n)) ∧ Below w1.heap.size w1 w') := fun w1 hb => wordGather A c n f w1 hn (fun k hk => by
    obtain ⟨h1, b, off, h2, h3, h4⟩ := h k hk
    exact ⟨h1, b, off, h2, Nat.lt_of_lt_of_le h3 hb.size, (hb.cell (p := ⟨b, off + k, none⟩) h3).trans h4⟩)
  have HWh : Hid (∀ w, Calls Try.prog 30 #[.bool false, .int .i64 2] w fun e w' => e = .returned (.int .i64 0) ∧ w = w') := fun w => refWhen false 2 w
  have hlen := Nat.le_trans (gath_len f n) hn
  have cd : decide ((64 : Int) < (n : Int)) = false := decide_eq_false (by omega)
  clear h
  generalize gath f n = L at *
  generalize gbad f n = bd at *
  have hl1000 : L.length ≤ 1000 := by omega
  go_enter Try.func22, Try.ntmps22
  go_upto_region 9 with (first | (go_at_call 30; ((with_reducible refine (HWh.out _).mono ?_); rintro e w4 ⟨rfl, rfl⟩)) | (go_at_call 117; ((with_reducible refine HG.out.mono ?_); rintro e w5 ⟨⟨v, rfl, hown⟩, hb5⟩; have hz5 := hb5.size; have hwant := RdRow.own hown rfl)) | (go_at_call 118; ((with_reducible refine (HL.out _ (by (repeat' (first | (with_reducible exact Below.refl _ _) | (with_reducible assumption) | (with_reducible refine Below.alloc ?_ ?_ _) | (with_reducible refine Below.drew ?_) | (with_reducible refine below_drewN ?_ _) | (with_reducible refine Below.setCell ?_ ?_ _) | (with_reducible refine Below.trans ?_ (Below.mono (by assumption) ?_)) | omega | (simp; omega) | (simp; done))))).mono ?_); rintro e w5b ⟨⟨v', rfl, hgot⟩, hb5b⟩; have hz5b := hb5b.size; have hwant := hwant.below hb5b)) | fail)
  go_upto_region 10 with (first | (go_at_call 119; ((with_reducible refine (refFound _ L l s _ hwant hl1000).mono ?_); rintro e w6 ⟨⟨r, o, rfl, f1⟩, hb6⟩; have hz6 := hb6.size)) | fail)
  have HF := Lib.hid f1
  refine wp_world (fun ω => Below w.heap.size w ω ∧ RdRow ω v L ∧ RdRow ω v' L ∧ w6.heap.size < ω.heap.size ∧ ω.cell? ⟨w6.heap.size, 0, none⟩ = some (.int .i64 r.l) ∧ ω.cell? ⟨w6.heap.size, 1, none⟩ = some (.int .i64 r.s) ∧ ω.cell? ⟨w6.heap.size, 2, none⟩ = some (.int .i64 r.st) ∧ ω.cell? ⟨w6.heap.size, 3, none⟩ = some (.int .i64 r.d)) ⟨by (repeat' (first | (with_reducible exact Below.refl _ _) | (with_reducible assumption) | (with_reducible refine Below.alloc ?_ ?_ _) | (with_reducible refine Below.drew ?_) | (with_reducible refine below_drewN ?_ _) | (with_reducible refine Below.setCell ?_ ?_ _) | (with_reducible refine Below.trans ?_ (Below.mono (by assumption) ?_)) | omega | (simp; omega) | (simp; done))), (hwant.below hb6).below (Below.alloc (Below.refl _ _) (Nat.le_refl _) _), (hgot.below hb6).below (Below.alloc (Below.refl _ _) (Nat.le_refl _) _), by simp, World.cell?_alloc_mark w6 _ _ _ 0, World.cell?_alloc_mark w6 _ _ _ 1, World.cell?_alloc_mark w6 _ _ _ 2, World.cell?_alloc_mark w6 _ _ _ 3⟩ ?_
  clear f1 hb6 hz6 hb5 hz5 hb5b hz5b HL HWh HG hown hwant hgot
  generalize w6.heap.size = b1 at *
  rintro w8 ⟨hB8, hW8, hG8, hs8, c0, c1, c2, c3⟩
  have hsz8 := hB8.size
  have HW8 := Lib.hid hW8
  have HG8 := Lib.hid hG8
  clear hW8 hG8
  go_upto_region 11 with (first | (go_at_call 120; ((with_reducible refine (wordFind _ L l s _ HW8.out hl1000).mono ?_); rintro e w9 ⟨⟨r2, o2, rfl, f2⟩, hb9⟩; obtain ⟨rfl, rfl⟩ := f2.uniq HF.out; have hz9 := hb9.size)) | fail)
  have d0 := (hb9.cell (p := ⟨b1, 0, none⟩) hs8).trans c0
  have d1 := (hb9.cell (p := ⟨b1, 1, none⟩) hs8).trans c1
  have d2 := (hb9.cell (p := ⟨b1, 2, none⟩) hs8).trans c2
  have d3 := (hb9.cell (p := ⟨b1, 3, none⟩) hs8).trans c3
  have hsz9 : w8.heap.size ≤ w9.heap.size := hb9.size
  have ha9 : Below w9.heap.size w9 (w9.alloc (.cells #[.int .i64 r.l, .int .i64 r.s, .int .i64 r.st, .int .i64 r.d] 27)) := Below.alloc (Below.refl _ _) (Nat.le_refl _) _
  refine wp_world (fun ω => Below w.heap.size w ω ∧ RdRow ω v L ∧ RdRow ω v' L ∧ b1 < ω.heap.size ∧ w9.heap.size < ω.heap.size ∧ ω.cell? ⟨b1, 0, none⟩ = some (.int .i64 r.l) ∧ ω.cell? ⟨b1, 1, none⟩ = some (.int .i64 r.s) ∧ ω.cell? ⟨b1, 2, none⟩ = some (.int .i64 r.st) ∧ ω.cell? ⟨b1, 3, none⟩ = some (.int .i64 r.d) ∧ ω.cell? ⟨w9.heap.size, 0, none⟩ = some (.int .i64 r.l) ∧ ω.cell? ⟨w9.heap.size, 1, none⟩ = some (.int .i64 r.s) ∧ ω.cell? ⟨w9.heap.size, 2, none⟩ = some (.int .i64 r.st) ∧ ω.cell? ⟨w9.heap.size, 3, none⟩ = some (.int .i64 r.d)) ⟨by (repeat' (first | (with_reducible exact Below.refl _ _) | (with_reducible assumption) | (with_reducible refine Below.alloc ?_ ?_ _) | (with_reducible refine Below.drew ?_) | (with_reducible refine below_drewN ?_ _) | (with_reducible refine Below.setCell ?_ ?_ _) | (with_reducible refine Below.trans ?_ (Below.mono (by assumption) ?_)) | omega | (simp; omega) | (simp; done))), (HW8.out.below hb9).below ha9, (HG8.out.below hb9).below ha9, by simp; omega, by simp, cell_alloc_keep d0, cell_alloc_keep d1, cell_alloc_keep d2, cell_alloc_keep d3, World.cell?_alloc_mark w9 _ _ _ 0, World.cell?_alloc_mark w9 _ _ _ 1, World.cell?_alloc_mark w9 _ _ _ 2, World.cell?_alloc_mark w9 _ _ _ 3⟩ ?_
  clear hb9 hz9 d0 d1 d2 d3 c0 c1 c2 c3 ha9
  generalize w9.heap.size = b2 at *
  rintro w10 ⟨hB10, hW10, hG10, hs10, ht10, c0, c1, c2, c3, d0, d1, d2, d3⟩
  have hsz10 := hB10.size
  have HW10 := Lib.hid hW10
  have HG10 := Lib.hid hG10
  clear hW10 hG10
  generalize r.l = rl at *
  generalize r.s = rs at *
  generalize r.st = rt at *
  generalize r.d = rd at *
  go_wp2_with (first | (go_at_call 34; ((with_reducible refine (refIs _ _ _).mono ?_); rintro e w' ⟨rfl, rfl⟩)) | (go_at_call 121; ((with_reducible refine (refSame _ _ L _ HG10.out HW10.out hl1000).mono ?_); rintro e w11 ⟨rfl, hb11⟩; have hz11 := hb11.size; have g0 := (hb11.cell (p := ⟨b1, 0, none⟩) hs10).trans c0; have g1 := (hb11.cell (p := ⟨b1, 1, none⟩) hs10).trans c1; have g2 := (hb11.cell (p := ⟨b1, 2, none⟩) hs10).trans c2; have g3 := (hb11.cell (p := ⟨b1, 3, none⟩) hs10).trans c3; have h0 := (hb11.cell (p := ⟨b2, 0, none⟩) ht10).trans d0; have h1 := (hb11.cell (p := ⟨b2, 1, none⟩) ht10).trans d1; have h2 := (hb11.cell (p := ⟨b2, 2, none⟩) ht10).trans d2; have h3 := (hb11.cell (p := ⟨b2, 3, none⟩) ht10).trans d3)) | fail)
  go_ret
  exact ⟨by simp, by (repeat' (first | (with_reducible exact Below.refl _ _) | (with_reducible assumption) | (with_reducible refine Below.alloc ?_ ?_ _) | (with_reducible refine Below.drew ?_) | (with_reducible refine below_drewN ?_ _) | (with_reducible refine Below.setCell ?_ ?_ _) | (with_reducible refine Below.trans ?_ (Below.mono (by assumption) ?_)) | omega | (simp; omega) | (simp; done)))⟩
theorem wordGathers_true (A : Option Addr) (c n : Nat) (f : Nat → Nat) (l s : Int) (w : World) (hn : n ≤ 9223372036854775807) (h : WdCells w A n f) :
    Calls Try.prog 22 #[.slice A n c, .int .i64 l, .int .i64 s] w fun e w' => e = .returned (.bool true) ∧ Below w.heap.size w w' := by
  by_cases h1 : n ≤ 64
  · exact wordGathers_short A c n f l s w h1 h
  · by_cases h2 : n ≤ 200
    · exact wordGathers_long A c n l s w (by omega) h2
    · exact wordGathers_huge A c n l s w (by omega) hn
theorem u32_bd {a : Int} (h : (Lit.int .u32 a).wf = true) : 0 ≤ a ∧ a ≤ 4294967295 := by
  simp [Lit.wf, IntKind.min, IntKind.max, IntKind.bits, IntKind.signed] at h
  omega
open Go.ChangeShapes Go.WideShapes Go.ChangeAt Go.Deep Go.RowKit in
set_option maxRecDepth 100000 in
theorem walkWordGathers {H : Type} (W : World) (base : Nat) (enc : TypeId × Value → H) (v0 v1 v2 : Value) {d0 d1 d2 : DataW H} {p0 p1 p2 : List MemPlace}
    (k0 : Value.okWide Try.prog W .any base 183 v0) (k1 : Value.okWide Try.prog W .any base 3 v1) (k2 : Value.okWide Try.prog W .any base 3 v2)
    (h0 : DataW.Trod enc Try.prog W 0 (fun _ => true) true 183 v0 d0 p0) (_ : DataW.Trod enc Try.prog W 0 (fun _ => true) true 3 v1 d1 p1) (_ : DataW.Trod enc Try.prog W 0 (fun _ => true) true 3 v2 d2 p2) :
    Calls Try.prog 22 #[v0, v1, v2] W fun e W' => e = .returned (.bool true) ∧ Below W.heap.size W W' := by
  obtain ⟨A, n, c, rfl, hnc, hcm, hs⟩ := slice_elems 1 (fun cs => ∃ a : Int, cs = [.int .u32 a] ∧ 0 ≤ a ∧ a ≤ 4294967295) Try.underlying183 (by kernel_rfl) (by omega)
    (fun fu cs x h => by
      obtain ⟨a, ha, _, wa⟩ := DataW.trod_int Try.underlying22 h
      exact ⟨a, ha, u32_bd wa⟩) k0 h0
  obtain ⟨x, rfl, ex⟩ := okWide_int Try.underlying3 k1
  obtain ⟨y, rfl, ey⟩ := okWide_int Try.underlying3 k2
  unfold maxLen at hcm
  rcases hs with rfl | ⟨b, off, rfl, hb, hcell⟩
  · exact wordGathers_true A c 0 (fun _ => 0) x y W (by omega) (fun k hk => absurd hk (Nat.not_lt_zero k))
  · have hf : ∀ i, ∃ f : Nat, i < n → f < 4294967296 ∧ W.cell? ⟨b, off + i, none⟩ = some (.int .u32 f) := by
      intro i
      by_cases hi : i < n
      · obtain ⟨cs, _, ⟨a, rfl, a1, a2⟩, hc⟩ := hcell i hi
        refine ⟨a.toNat, fun _ => ⟨by omega, ?_⟩⟩
        have h := hc 0 (by omega)
        rw [Nat.mul_one, Nat.add_zero] at h
        rw [h, Int.toNat_of_nonneg a1]
        rfl
      · exact ⟨0, fun h => absurd h hi⟩
    obtain ⟨f, hf⟩ := Classical.axiomOfChoice hf
    exact wordGathers_true _ c n f x y W (by omega) (fun k hk => ⟨(hf k hk).1, b, off, rfl, hb, (hf k hk).2⟩)
end Go.Proofs.Ytdfpenjhpemokaa
