/-
  slices.SortFunc at readings: the contract of the shelf laid at this program (written by the kit's tool in its plain mode).
-/
import Derived.Shelf.SlSortCmp.WholeK
import Derived.Shelf.SlicesQ.Reverse
import Derived.Test.YtdfpenjhpemokaaWgPl
set_option linter.unusedVariables false
namespace Go.Proofs.Ytdfpenjhpemokaa
open Go.Shelf Go.RowKit Go.Lib Go.Sort
def wgSort_ren : Go.Shelf.Ren := ⟨fun | 6 => 169 | 15 => 181 | 14 => 180 | 28 => 190 | 29 => 191 | 20 => 182 | 21 => 183 | 22 => 184 | 23 => 185 | 24 => 186 | 25 => 187 | 26 => 188 | 27 => 189 | 46 => 192 | 47 => 193 | 48 => 194 | 49 => 195 | 50 => 196 | 57 => 197 | n => n, fun | 22 => 184 | 24 => 27 | 25 => 246 | 3 => 3 | 39 => 207 | 0 => 0 | 53 => 22 | 55 => 270 | 4 => 4 | 46 => 262 | 45 => 261 | 50 => 266 | 5 => 5 | 9 => 9 | 66 => 271 | 70 => 275 | 76 => 277 | 77 => 222 | n => n, fun | n => n⟩
theorem wgSort : Go.Proofs.SlLaysF0.n6 Try.prog wgSort_ren := {
  mixed := by kernel_rfl
  f6 := ⟨Try.f169.name, by decide, Try.func169.trans (congrArg some (by kernel_rfl))⟩
  f14 := ⟨Try.f180.name, by decide, Try.func180.trans (congrArg some (by kernel_rfl))⟩
  f15 := Try.func181.trans (congrArg some (by kernel_rfl))
  f20 := ⟨Try.f182.name, by decide, Try.func182.trans (congrArg some (by kernel_rfl))⟩
  f21 := ⟨Try.f183.name, by decide, Try.func183.trans (congrArg some (by kernel_rfl))⟩
  f22 := ⟨Try.f184.name, by decide, Try.func184.trans (congrArg some (by kernel_rfl))⟩
  f23 := ⟨Try.f185.name, by decide, Try.func185.trans (congrArg some (by kernel_rfl))⟩
  f24 := ⟨Try.f186.name, by decide, Try.func186.trans (congrArg some (by kernel_rfl))⟩
  f25 := ⟨Try.f187.name, by decide, Try.func187.trans (congrArg some (by kernel_rfl))⟩
  f26 := ⟨Try.f188.name, by decide, Try.func188.trans (congrArg some (by kernel_rfl))⟩
  f27 := ⟨Try.f189.name, by decide, Try.func189.trans (congrArg some (by kernel_rfl))⟩
  f28 := Try.func190.trans (congrArg some (by kernel_rfl))
  f29 := Try.func191.trans (congrArg some (by kernel_rfl))
  f46 := ⟨Try.f192.name, by decide, Try.func192.trans (congrArg some (by kernel_rfl))⟩
  f47 := Try.func193.trans (congrArg some (by kernel_rfl))
  f48 := Try.func194.trans (congrArg some (by kernel_rfl))
  f49 := ⟨Try.f195.name, by decide, Try.func195.trans (congrArg some (by kernel_rfl))⟩
  f50 := ⟨Try.f196.name, by decide, Try.func196.trans (congrArg some (by kernel_rfl))⟩
  f57 := ⟨Try.f197.name, by decide, Try.func197.trans (congrArg some (by kernel_rfl))⟩
  t0 := Try.underlying0
  a0 := Try.isAgg0
  z0 := Try.sizeOf0
  v0 := Try.zeroValue0
  t3 := Try.underlying3
  a3 := Try.isAgg3
  z3 := Try.sizeOf3
  v3 := Try.zeroValue3
  t4 := Try.underlying4
  a4 := Try.isAgg4
  z4 := Try.sizeOf4
  v4 := Try.zeroValue4
  t5 := Try.underlying5
  a5 := Try.isAgg5
  z5 := Try.sizeOf5
  v5 := Try.zeroValue5
  t9 := Try.underlying9
  a9 := Try.isAgg9
  z9 := Try.sizeOf9
  v9 := Try.zeroValue9
  t22 := Try.underlying184
  a22 := Try.isAgg184
  z22 := Try.sizeOf184
  v22 := Try.zeroValue184
  t25 := Try.underlying246
  a25 := Try.isAgg246
  z25 := Try.sizeOf246
  v25 := Try.zeroValue246
  t39 := Try.underlying207
  a39 := Try.isAgg207
  z39 := Try.sizeOf207
  v39 := Try.zeroValue207
  t45 := Try.underlying261
  a45 := Try.isAgg261
  z45 := Try.sizeOf261
  v45 := Try.zeroValue261
  t46 := Try.underlying262
  a46 := Try.isAgg262
  z46 := Try.sizeOf262
  v46 := Try.zeroValue262
  t50 := Try.underlying266
  a50 := Try.isAgg266
  z50 := Try.sizeOf266
  v50 := Try.zeroValue266
  t53 := Try.underlying22
  a53 := Try.isAgg22
  z53 := Try.sizeOf22
  v53 := Try.zeroValue22
  t55 := Try.underlying270
  a55 := Try.isAgg270
  z55 := Try.sizeOf270
  v55 := Try.zeroValue270
  t66 := Try.underlying271
  a66 := Try.isAgg271
  z66 := Try.sizeOf271
  v66 := Try.zeroValue271
  t70 := Try.underlying275
  a70 := Try.isAgg275
  z70 := Try.sizeOf275
  v70 := Try.zeroValue275
  t76 := Try.underlying277
  a76 := Try.isAgg277
  z76 := Try.sizeOf277
  v76 := Try.zeroValue277
  t77 := Try.underlying222
  a77 := Try.isAgg222
  z77 := Try.sizeOf222
  v77 := Try.zeroValue222 }
abbrev Rf := {r : Rd // r.Fine}
instance : Inhabited Rf := ⟨⟨⟨0, 0, 0, 0⟩, by unfold Rd.Fine; simp⟩⟩
def rfEnc (x : Rf) : List Value := [.int .i64 x.1.l, .int .i64 x.1.s, .int .i64 x.1.st, .int .i64 x.1.d]
def rfCmp (x y : Rf) : Int := (x.1.l - y.1.l) * 4 + x.1.s - y.1.s
theorem rf_lt (x y : Rf) : ltOf rfCmp x y = true ↔ x.1.lt y.1 := by
  obtain ⟨x, hx⟩ := x
  obtain ⟨y, hy⟩ := y
  obtain ⟨a1, a2, a3, a4, _⟩ := hx
  obtain ⟨b1, b2, b3, b4, _⟩ := hy
  unfold ltOf rfCmp Rd.lt
  rw [decide_eq_true_iff]
  show (x.l - y.l) * 4 + x.s - y.s < 0 ↔ x.l < y.l ∨ (x.l = y.l ∧ x.s < y.s)
  omega
theorem rf_swo : SWO (ltOf rfCmp) where
  irrefl x := by
    cases h : ltOf rfCmp x x
    · rfl
    · exact absurd ((rf_lt x x).1 h) (Rd.lt_irrefl _)
  trans x y z h1 h2 := (rf_lt x z).2 (Rd.lt_trans ((rf_lt x y).1 h1) ((rf_lt y z).1 h2))
  ntrans x y z h1 h2 := by
    cases h : ltOf rfCmp x z
    · rfl
    · have h3 := (rf_lt x z).1 h
      have n1 : ¬ x.1.lt y.1 := fun q => by rw [(rf_lt x y).2 q] at h1; cases h1
      have n2 : ¬ y.1.lt z.1 := fun q => by rw [(rf_lt y z).2 q] at h2; cases h2
      exfalso
      unfold Rd.lt at *
      omega
set_option maxHeartbeats 1000000 in
theorem gatherCmp (x y : Rd) (hx : x.Fine) (hy : y.Fine) (W : World) : Calls Try.prog 170 #[.agg #[.int .i64 x.l, .int .i64 x.s, .int .i64 x.st, .int .i64 x.d], .agg #[.int .i64 y.l, .int .i64 y.s, .int .i64 y.st, .int .i64 y.d]] W fun e w' => e = .returned (.int .i64 ((x.l - y.l) * 4 + x.s - y.s)) ∧ ∃ q os', w' = grow (W.drewN q) os' := by
  obtain ⟨a1, a2, a3, a4, _⟩ := hx
  obtain ⟨b1, b2, b3, b4, _⟩ := hy
  obtain ⟨xl, xs, xt, xd⟩ := x
  obtain ⟨yl, ys, yt, yd⟩ := y
  simp only at a1 a2 a3 a4 b1 b2 b3 b4 ⊢
  have h1 : IntKind.wrap .i64 (xl - yl) = xl - yl := IntWalk.i64_in _ ⟨by omega, by omega⟩
  have h2 : IntKind.wrap .i64 ((xl - yl) * 4) = (xl - yl) * 4 := IntWalk.i64_in _ ⟨by omega, by omega⟩
  have h3 : IntKind.wrap .i64 ((xl - yl) * 4 + xs) = (xl - yl) * 4 + xs := IntWalk.i64_in _ ⟨by omega, by omega⟩
  have h4 : IntKind.wrap .i64 ((xl - yl) * 4 + xs - ys) = (xl - yl) * 4 + xs - ys := IntWalk.i64_in _ ⟨by omega, by omega⟩
  go_enter Try.func170, Try.ntmps170
  go_wp2
  go_ret
  exact ⟨rfl, 0, _, by rw [alloc_eq_grow, alloc_eq_grow, grow_grow]; rfl⟩
theorem gatherSort (blk cap : Nat) (d : Array Rf) (w : World) (hH : HoldsK rfEnc 4 w blk 0 d) (hblk : blk < w.heap.size) (hsz : d.size < 4611686018427387904) :
    Calls Try.prog 169 #[.slice (some ⟨blk, 0, none⟩) d.size cap, .func (.func 170) #[] #[]] w fun e w' => e = .returned (.tuple #[]) ∧ ∃ d' n os, PermIn 0 d.size d d' ∧ SortedIn (ltOf rfCmp) 0 d.size d' ∧ w' = sortWorldK rfEnc 4 w blk 0 n d' os :=
  AnyQ.slices_SortFunc wgSort 4 (fun w => by kernel_rfl) (fun w => by kernel_rfl) rfEnc (fun _ => rfl) (fun x v hv => by simp [rfEnc] at hv; rcases hv with rfl | rfl | rfl | rfl <;> rfl) rfCmp rf_swo 170 #[] blk 0 cap d w
    (enters_of Try.func170 (by kernel_rfl) rfl) (fun _ _ _ _ x y => gatherCmp x.1 y.1 x.2 y.2 _) hH hblk hsz
end Go.Proofs.Ytdfpenjhpemokaa
