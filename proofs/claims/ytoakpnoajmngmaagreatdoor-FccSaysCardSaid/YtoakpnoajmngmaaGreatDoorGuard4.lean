import Derived.Test.YtoakpnoajmngmaaGreatDoorGuard
import Derived.Handy
import Derived.Deep.RegionHeld3
set_option linter.unusedVariables false
set_option linter.unusedSimpArgs false
namespace Go.Proofs.YtoakpnoajmngmaaGreatDoor
open Go.RowKit
def j7 (lo hi noise push most rate:Int):Prop:= -100000<=lo/\lo<=100000/\ -100000<=hi/\hi<=100000/\0<=noise/\noise<=1000/\0<=push/\push<=2000/\1<=most/\most<=4000/\1<=rate/\rate<=most
set_option maxHeartbeats 400000 in
theorem Z5 (lo hi noise push most rate:Int) (w:World) (h:j7 lo hi noise push most rate) (h1:most<push):
  Calls Tryz.prog 124 #[.agg #[.int .i64 lo,.int .i64 hi,.int .i64 noise,.int .i64 push,.int .i64 most,.int .i64 rate]] w fun e w'=>e= .returned (qp 3)/\Below w.heap.size w w':=by
 obtain⟨a1,a2,a3,a4,a5,a6,a7,a8,a9,a10,a11,a12⟩:=h
 go_enter Tryz.func124,Tryz.ntmps124
 go_wp2_with (go_at_call 111;((with_reducible refine(K9 _ _ _ _).mono ?_);rintro e w' ⟨rfl,rfl⟩))
 go_quiet (fail)
 go_wp2
 go_ret
 exact⟨rfl,below_drewN (by go_grown) _⟩
set_option maxHeartbeats 400000 in
theorem Z6 (lo hi noise push most rate:Int) (w:World) (h:j7 lo hi noise push most rate) (h1:push<=most) (h2:rate<push):
  Calls Tryz.prog 124 #[.agg #[.int .i64 lo,.int .i64 hi,.int .i64 noise,.int .i64 push,.int .i64 most,.int .i64 rate]] w fun e w'=>e= .returned (qp 3)/\Below w.heap.size w w':=by
 obtain⟨a1,a2,a3,a4,a5,a6,a7,a8,a9,a10,a11,a12⟩:=h
 go_enter Tryz.func124,Tryz.ntmps124
 go_wp2_with (go_at_call 111;((with_reducible refine(K9 _ _ _ _).mono ?_);rintro e w' ⟨rfl,rfl⟩))
 have hd:decide (most<push)=false:=by simpa using h1
 go_quiet (fail)
 go_wp2
 go_ret
 exact⟨rfl,below_drewN (by go_grown) _⟩
set_option maxHeartbeats 400000 in
theorem JB (lo hi noise push most rate:Int) (w:World) (h:j7 lo hi noise push most rate) (h1:push<=most) (h2:push<=rate) (k:Int) (hk:Hid (k=if hi-lo<2*(noise+zE push rate most)then 3 else 0)):
  Calls Tryz.prog 124 #[.agg #[.int .i64 lo,.int .i64 hi,.int .i64 noise,.int .i64 push,.int .i64 most,.int .i64 rate]] w fun e w'=>e= .returned (qp k)/\Below w.heap.size w w':=by
 obtain⟨a1,a2,a3,a4,a5,a6,a7,a8,a9,a10,a11,a12⟩:=h
 have hp1:=jH a11 most (push:=push)
 have hp2:=wF a11 (by omega) (by omega:most+push<=6000)
 go_enter Tryz.func124,Tryz.ntmps124
 go_wp2_with (go_at_call 111;((with_reducible refine(K9 _ _ _ _).mono ?_);rintro e w' ⟨rfl,rfl⟩))
 have hd:decide (most<push)=false:=by simpa using h1
 have hd2:decide (rate<push)=false:=by simpa using h2
 have e1:IntKind.i64.wrap (hi-lo)=hi-lo:=IntWalk.i64_in _ (by omega)
 have e2:IntKind.i64.wrap (noise+zE push rate most)=noise+zE push rate most:=IntWalk.i64_in _ (by omega)
 have e3:IntKind.i64.wrap (2*(noise+zE push rate most))=2*(noise+zE push rate most):=IntWalk.i64_in _ (by omega)
 go_region_held3 (fun w'=>w'.cell? ⟨w.heap.size,0,none⟩=some (.int .i64 lo)/\w'.cell? ⟨w.heap.size,1,none⟩=some (.int .i64 hi)/\w'.cell? ⟨w.heap.size,2,none⟩=some (.int .i64 noise)/\w'.cell? ⟨w.heap.size,3,none⟩=some (.int .i64 push)/\w'.cell? ⟨w.heap.size,4,none⟩=some (.int .i64 most)/\w'.cell? ⟨w.heap.size,5,none⟩=some (.int .i64 rate)) (first|(refine⟨?_,?_,?_,?_,?_,?_⟩<;>(go_simp;done))|go_keep)
  (first|(go_at_call 151;refine(Zj _ _ _ _ _ _ _ _ (by omega) (by omega) (by omega) (by omega) (by omega) (by omega)).mono ?_;rintro e w' ⟨rfl,rfl⟩))
 clear e1 e2 e3
 go_wp2
 ·go_ret
  exact⟨by rw[hk.out,if_pos (by assumption)];rfl,by go_grown⟩
 ·go_ret
  exact⟨by rw[hk.out,if_neg (by omega)];rfl,by go_grown⟩
end Go.Proofs.YtoakpnoajmngmaaGreatDoor
namespace Go.Proofs.YtoakpnoajmngmaaGreatDoor
open Go.RowKit
set_option maxHeartbeats 400000 in
theorem Z7 (lo hi noise push most rate:Int) (w:World) (h:j7 lo hi noise push most rate) (h1:most<push):
  Calls Tryz.prog 96 #[.agg #[.int .i64 lo,.int .i64 hi,.int .i64 noise,.int .i64 push,.int .i64 most,.int .i64 rate]] w fun e w'=>e= .returned (.int .i64 3)/\Below w.heap.size w w':=by
 obtain⟨a1,a2,a3,a4,a5,a6,a7,a8,a9,a10,a11,a12⟩:=h
 go_enter Tryz.func96,Tryz.ntmps96
 go_wp2_with (go_at_call 20;((with_reducible refine(qc _ _ _ _ (by omega) (by omega)).mono ?_);rintro e w' ⟨rfl,rfl⟩))
 have hd:decide (most<push)=true:=by simpa using h1
 go_quiet ((go_at_call 8;exact Calls.quiet_of_same ((yg _ _ _).mono fun _ _ hh=>⟨hh.1,hh.2.symm⟩)))
 go_wp2
 go_ret
 exact⟨rfl,below_drewN (by go_grown) _⟩
set_option maxHeartbeats 400000 in
theorem mZ (lo hi noise push most rate:Int) (w:World) (h:j7 lo hi noise push most rate) (h1:push<=most) (h2:rate<push):
  Calls Tryz.prog 96 #[.agg #[.int .i64 lo,.int .i64 hi,.int .i64 noise,.int .i64 push,.int .i64 most,.int .i64 rate]] w fun e w'=>e= .returned (.int .i64 3)/\Below w.heap.size w w':=by
 obtain⟨a1,a2,a3,a4,a5,a6,a7,a8,a9,a10,a11,a12⟩:=h
 go_enter Tryz.func96,Tryz.ntmps96
 go_wp2_with (go_at_call 20;((with_reducible refine(qc _ _ _ _ (by omega) (by omega)).mono ?_);rintro e w' ⟨rfl,rfl⟩))
 have hd:decide (most<push)=false:=by simpa using h1
 have hd2:decide (rate<push)=true:=by simpa using h2
 go_quiet ((go_at_call 8;exact Calls.quiet_of_same ((yg _ _ _).mono fun _ _ hh=>⟨hh.1,hh.2.symm⟩)))
 go_wp2
 go_ret
 exact⟨rfl,below_drewN (by go_grown) _⟩
set_option maxHeartbeats 400000 in
theorem Z8 (lo hi noise push most rate:Int) (w:World) (h:j7 lo hi noise push most rate) (h1:push<=most) (h2:push<=rate) (k:Int) (hk:Hid (k=if hi-lo<2*(noise+zE push rate most)then 3 else 0)):
  Calls Tryz.prog 96 #[.agg #[.int .i64 lo,.int .i64 hi,.int .i64 noise,.int .i64 push,.int .i64 most,.int .i64 rate]] w fun e w'=>e= .returned (.int .i64 k)/\Below w.heap.size w w':=by
 obtain⟨a1,a2,a3,a4,a5,a6,a7,a8,a9,a10,a11,a12⟩:=h
 have hp1:=jH a11 most (push:=push)
 have hp2:=wF a11 (by omega) (by omega:most+push<=6000)
 go_enter Tryz.func96,Tryz.ntmps96
 go_wp2_with (go_at_call 20;((with_reducible refine(qc _ _ _ _ (by omega) (by omega)).mono ?_);rintro e w' ⟨rfl,rfl⟩))
 have hd:decide (most<push)=false:=by simpa using h1
 have hd2:decide (rate<push)=false:=by simpa using h2
 have e1:IntKind.i64.wrap (hi-lo)=hi-lo:=IntWalk.i64_in _ (by omega)
 have e2:IntKind.i64.wrap (noise+zE push rate most)=noise+zE push rate most:=IntWalk.i64_in _ (by omega)
 have e3:IntKind.i64.wrap (2*(noise+zE push rate most))=2*(noise+zE push rate most):=IntWalk.i64_in _ (by omega)
 go_region_held3 (fun w'=>w'.cell? ⟨w.heap.size,0,none⟩=some (.int .i64 lo)/\w'.cell? ⟨w.heap.size,1,none⟩=some (.int .i64 hi)/\w'.cell? ⟨w.heap.size,2,none⟩=some (.int .i64 noise)/\w'.cell? ⟨w.heap.size,3,none⟩=some (.int .i64 push)/\w'.cell? ⟨w.heap.size,4,none⟩=some (.int .i64 most)/\w'.cell? ⟨w.heap.size,5,none⟩=some (.int .i64 rate)) (first|(refine⟨?_,?_,?_,?_,?_,?_⟩<;>(go_simp;done))|go_keep)
  (first|(go_at_call 94;refine(Z4 _ _ _ _ _ _ _ _ (by omega) (by omega) (by omega) (by omega) (by omega) (by omega)).mono ?_;rintro e w' ⟨rfl,rfl⟩)|(go_at_call 8;refine(yg _ _ _).mono ?_;rintro e w' ⟨rfl,rfl⟩))
 clear e1 e2 e3
 go_wp2
 go_ret
 exact⟨zD (by rw[hk.out];unfold mV;simp only[decide_eq_true_eq]),by go_grown⟩
end Go.Proofs.YtoakpnoajmngmaaGreatDoor
