import Derived.Test.YtoakpnoajmngmaaGreatDoorWgPl
import Derived.Deep.RegionWith
set_option linter.unusedVariables false
set_option linter.unusedSimpArgs false
namespace Go.Proofs.YtoakpnoajmngmaaGreatDoor
open Go.RowKit
theorem zm3 (w:World):∀o,o<4->((w.alloc (.cells #[.int .i64 0,.int .i64 0,.int .i64 0,.int .i64 0] 136)).alloc (.cells #[.int .i64 0,.int .i64 0,.int .i64 0,.int .i64 0] 136)).cell? ⟨w.heap.size,o,none⟩=some (.int .i64 0):=by
 intro o ho
 obtain rfl|rfl|rfl|rfl:o=0\/o=1\/o=2\/o=3:=by omega
 all_goals simp[World.cell?_alloc_past]
theorem w64 (n:Int) (h0: -4611686018427387904<=n) (h1:n<=4611686018427387904):wrap64 n=n:=by unfold wrap64;omega
theorem zbm (x j Y:Nat) (hj:j<18) (hY:Hid (x/1024%2^j=Y)):wrap64 ((Y:Int)+wrap64 ((x:Int)/2^(10+j)%2*2^j))=((x/1024%2^(j+1):Nat):Int):=by
 have e:x/2^(10+j)=x/1024/2^j:=by rw[Nat.pow_add,Nat.div_div_eq_div_mul]
 have h2:=Nat.mod_lt (x/1024) (Nat.pow_pos (n:=j) (show 0<2 by omega))
 rw[ziP,e,yh,Y9,hY.out]
 rw[hY.out]at h2
 have h1:2^j<=2^17:=Nat.pow_le_pow_right (by omega) (by omega)
 generalize x/1024/2^j=y at*
 generalize 2^j=p at*
 rcases Nat.mod_two_eq_zero_or_one y with e|e<;>rw[e]
 ·rw[show((0:Nat):Int)*(p:Int)=0 by simp,w64 0 (by omega) (by omega),w64 _ (by omega) (by omega)];omega
 ·rw[w64 (((1:Nat):Int)*(p:Int)) (by omega) (by omega),w64 _ (by omega) (by omega)];omega
theorem zeJ (x Y:Nat) (hY:Hid (x/1024%2^18=Y)):wrap64 ((Y:Int)-(x:Int)/268435456%2*262144)=vx x:=by
 have h:=hY.out
 rw[w64 _ (by omega) (by omega)]
 unfold vx
 split<;>omega
set_option maxHeartbeats 1000000 in
theorem KS (x T S U:Nat) (d:Int) (w:World) (hx:x<4294967296) (hT:Hid (qV x=T)) (hS:Unit->x/256%4=S) (hU:Unit->x/536870912%4=U) (hd:Unit->vx x=d):
  Calls Tryz.prog 61 #[.int .u32 x] w fun e w'=>e= .returned (.agg #[.int .i64 T,.int .i64 S,.int .i64 U,.int .i64 d])/\Below w.heap.size w w':=by
 have hS2:Unit->((x:Int)/256%2+2*((x:Int)/512%2))=S:=fun _=>by have:=hS ();omega
 have hU2:Unit->((x:Int)/536870912%2+2*((x:Int)/1073741824%2))=U:=fun _=>by have:=hU ();omega
 clear hS hU
 go_enter Tryz.func61,Tryz.ntmps61
 go_wp2
 go_loopw [5] (fun i wr=>∃k:Nat,k<=8/\i= .int .i64 k/\Below w.heap.size w wr/\w.heap.size+1<wr.heap.size/\(∀o,wr.frozen? ⟨w.heap.size+1,o,none⟩=false)/\(∀o,wr.frozen? ⟨w.heap.size,o,none⟩=false)/\(∀o,o<4->wr.cell? ⟨w.heap.size,o,none⟩=some (.int .i64 0))/\wr.cell? ⟨w.heap.size+1,0,none⟩=some (.int .i64 ((rev x k:Nat):Int))/\wr.cell? ⟨w.heap.size+1,1,none⟩=some (.int .i64 0)/\wr.cell? ⟨w.heap.size+1,2,none⟩=some (.int .i64 0)/\wr.cell? ⟨w.heap.size+1,3,none⟩=some (.int .i64 0)) (fun i _=>8-(intOf i).toNat)
 case atStart=>exact⟨0,by omega,rfl,gW,by simp,by simp,fun o=>by go_simp,zm3 w,by simp[rev],by simp,by simp,by simp⟩
 case round=>
  obtain⟨k,hk,rfl,hbw,hsz,hfr,hfr0,hz,hc0,hc1,hc2,hc3⟩:=hrel
  have hl:=Wq x k
  have e1:Hid (rev x (k+1)=2*rev x k+x/2^k%2):=rfl
  have e2:Hid (k=8->rev x k=qV x):=fun h=>by subst h;exact zpx x
  have HL:=Lib.hid hl
  clear hl
  generalize rev x k=A at*
  by_cases hlt:k<8
  ·have hA:A<128:=Nat.lt_of_lt_of_le HL.out (Nat.pow_le_pow_right (n:=2) (by omega) (show k<=7 by omega))
   go_wp2_with fail
   go_region_with (go_at_call 95;((with_reducible refine(kF _ _ _ (by omega) (by omega) (by omega) (by omega)).mono ?_);rintro e w' ⟨rfl,rfl⟩))
   go_wp2
   all_goals
    go_roundw
    case rel=>exact⟨k+1,by omega,by go_num,gW,by simpa using hsz,fun o=>by go_simp,fun o=>by go_simp,fun o ho=>(World.cell?_setCell_other _ _ _ _ (by simp)).trans (hz o ho),zt (jN ⟨_,hc0⟩ (by rw[e1.out,Int.natCast_add,Int.natCast_mul,<-ziP];rfl)),(World.cell?_setCell_other _ _ _ _ (by simp)).trans hc1,(World.cell?_setCell_other _ _ _ _ (by simp)).trans hc2,(World.cell?_setCell_other _ _ _ _ (by simp)).trans hc3⟩
    case measure=>simp[intOf];omega
  ·have e3:Hid (A=T):=(e2.out (by omega)).trans hT.out
   clear e1 e2 HL
   go_wp2_with (go_at_call 95;((with_reducible refine(kF _ _ _ (by omega) (by omega) (by omega) (by omega)).mono ?_);rintro e w' ⟨rfl,rfl⟩))
   have hw1:Below w.heap.size w ((wr.setCell ⟨w.heap.size+1,1,none⟩ (.int .i64 ((x:Int)/256%2+2*((x:Int)/512%2)))).setCell ⟨w.heap.size+1,2,none⟩ (.int .i64 ((x:Int)/536870912%2+2*((x:Int)/1073741824%2)))):=gW
   obtain⟨wo,hwo⟩:∃wo:World,Hid (wo=wr):=⟨_,rfl⟩
   go_loopw [6] (fun i wq=>∃k:Nat,k<=18/\i= .int .i64 k/\Below w.heap.size w wq/\w.heap.size+1<wq.heap.size/\(∀o,wq.frozen? ⟨w.heap.size+1,o,none⟩=false)/\(∀o,wq.frozen? ⟨w.heap.size,o,none⟩=false)/\(∀o,o<4->wq.cell? ⟨w.heap.size,o,none⟩=some (.int .i64 0))/\wq.cell? ⟨w.heap.size+1,0,none⟩=some (.int .i64 A)/\wq.cell? ⟨w.heap.size+1,1,none⟩=some (.int .i64 ((x:Int)/256%2+2*((x:Int)/512%2)))/\wq.cell? ⟨w.heap.size+1,2,none⟩=some (.int .i64 ((x:Int)/536870912%2+2*((x:Int)/1073741824%2)))/\wq.cell? ⟨w.heap.size+1,3,none⟩=some (.int .i64 ((x/1024%2^k:Nat):Int))) (fun i _=>18-(intOf i).toNat)
   case atStart=>exact⟨0,by omega,rfl,hw1,by simpa using hsz,fun o=>by go_simp,fun o=>by go_simp,fun o ho=>(World.cell?_setCell_other _ _ _ _ (by simp)).trans ((World.cell?_setCell_other _ _ _ _ (by simp)).trans (hz o ho)),(World.cell?_setCell_other _ _ _ _ (by simp)).trans ((World.cell?_setCell_other _ _ _ _ (by simp)).trans hc0),(World.cell?_setCell_other _ _ _ _ (by simp)).trans (jN ⟨_,hc1⟩ rfl),jN ⟨_,(World.cell?_setCell_other _ _ _ _ (by simp)).trans hc2⟩ rfl,(World.cell?_setCell_other _ _ _ _ (by simp)).trans ((World.cell?_setCell_other _ _ _ _ (by simp)).trans (by rw[hc3,Nat.pow_zero,Nat.mod_one];rfl))⟩
   case round=>
    clear hbw hsz hfr hfr0 hz hc0 hc1 hc2 hc3 hw1
    obtain⟨j,hj,rfl,hbw,hsz,hfr,hfr0,hz,hc0,hc1,hc2,hc3⟩:=hrel
    generalize hY:x/1024%2^j=Y at*
    have HY:=Lib.hid hY
    clear hY
    by_cases hlt2:j<18
    ·have f1:IntKind.i64.wrap (10+(j:Int))=10+(j:Int):=qW _ (by omega) (by omega)
     go_wp2_with fail
     go_region_with (go_at_call 95;((with_reducible refine(kF _ _ _ (by omega) (by omega) (by omega) (by omega)).mono ?_);rintro e w' ⟨rfl,rfl⟩))
     go_wp2
     all_goals
      go_roundw
      case rel=>exact⟨j+1,by omega,by go_num,gW,by simpa using hsz,fun o=>by go_simp,fun o=>by go_simp,fun o ho=>(World.cell?_setCell_other _ _ _ _ (by simp)).trans (hz o ho),(World.cell?_setCell_other _ _ _ _ (by simp)).trans hc0,(World.cell?_setCell_other _ _ _ _ (by simp)).trans hc1,(World.cell?_setCell_other _ _ _ _ (by simp)).trans hc2,zt (jN ⟨_,hc3⟩ (by rw[zbm x j Y hlt2 HY]))⟩
      case measure=>simp[intOf];omega
    ·have hj2:j=18:=by omega
     have hp:=zeJ x Y (by rw[<-hj2];exact HY)
     have HP:=Lib.hid hp
     clear HY hp hj2
     have hz0:=hz 0 (by omega)
     have hz1:=hz 1 (by omega)
     have hz2:=hz 2 (by omega)
     have hz3:=hz 3 (by omega)
     clear hz
     go_wp2_with fail
     go_region_with (go_at_call 95;((with_reducible refine(kF _ _ _ (by omega) (by omega) (by omega) (by omega)).mono ?_);rintro e w' ⟨rfl,rfl⟩))
     go_wp2
     all_goals
      refine bodyPost_ret (v:= .agg #[.int .i64 A,.int .i64 ((x:Int)/256%2+2*((x:Int)/512%2)),.int .i64 ((x:Int)/536870912%2+2*((x:Int)/1073741824%2)),.int .i64 (wrap64 ((Y:Int)-(x:Int)/268435456%2*262144))]) ?_ rfl ⟨by rw[HP.out,hd (),hS2 (),hU2 (),e3.out],gW⟩
      simp[results,Tryz.results61,go_sem,hz0,hz1,hz2,hz3]
end Go.Proofs.YtoakpnoajmngmaaGreatDoor
