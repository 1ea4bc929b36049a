import Derived.Test.YtoakpnoajmngmaaGreatDoorFix
import Derived.Test.YtoakpnoajmngmaaGreatDoorWgPl
import Derived.Deep.QuietTactic
import Derived.BigQuiet
set_option linter.unusedVariables false
set_option linter.unusedSimpArgs false
namespace Go.Proofs.YtoakpnoajmngmaaGreatDoor
open Go.RowKit
theorem W6 {W w1:World} (hb:Below W.heap.size W w1):(∀b o,b<W.heap.size->w1.cell? ⟨b,o,none⟩=W.cell? ⟨b,o,none⟩)/\(∀b o,b<W.heap.size->w1.frozen? ⟨b,o,none⟩=W.frozen? ⟨b,o,none⟩):=
 ⟨fun b o h=>hb.cell (p:=⟨b,o,none⟩) h,fun b o h=>hb.frozen (p:=⟨b,o,none⟩) h⟩
theorem K9 (x lo hi:Int) (w:World):Calls Tryz.prog 111 #[.int .i64 x,.agg #[.int .i64 lo,.int .i64 hi]] w fun e w'=>e= .returned (.bool (decide (lo<=x)&&decide (x<=hi)))/\w.alloc (.cells #[.int .i64 lo,.int .i64 hi] 69)=w':=by
 by_cases h:lo<=x
 ·go_enter Tryz.func111,Tryz.ntmps111
  go_wp2
  go_ret
  exact⟨jY (by simp[h]),rfl⟩
 ·go_enter Tryz.func111,Tryz.ntmps111
  go_wp2
  go_ret
  exact⟨jY (by rw[decide_eq_false (by omega:¬lo<=x)];rfl),rfl⟩
theorem Zj (lo hi noise push most rate s:Int) (w:World) (hr:1<=rate) (hr2:rate<=4000) (h0: -10000<=s) (h1:s+push<=6000) (hp:0<=push) (hp2:push<=2000):
  Calls Tryz.prog 151 #[.agg #[.int .i64 lo,.int .i64 hi,.int .i64 noise,.int .i64 push,.int .i64 most,.int .i64 rate],.int .i64 s] w fun e w'=>
   e= .returned (.int .i64 (zE push rate s))/\w.alloc (.cells #[.int .i64 lo,.int .i64 hi,.int .i64 noise,.int .i64 push,.int .i64 most,.int .i64 rate] 111)=w':=by
 by_cases hs:s+push<=0
 ·have hE:Hid (zE push rate s=0):=qM hs
  go_enter Tryz.func151,Tryz.ntmps151
  go_wp2
  go_ret
  exact⟨zD hE.out.symm,rfl⟩
 ·have hb:=vA hr hr2 (by omega:0<s+push) h1
  obtain⟨b1,b2,b3,b4,b5,b6,b7,b8⟩:=hb
  have hE:Hid (zE push rate s=((s+push)/rate+1)*(s+push)-rate*((s+push)/rate)*((s+push)/rate+1)/2):=if_neg hs
  generalize zE push rate s=r at*
  go_enter Tryz.func151,Tryz.ntmps151
  go_wp2
  go_ret
  exact⟨zD hE.out.symm,rfl⟩
theorem Z4 (lo hi noise push most rate s:Int) (w:World) (hr:1<=rate) (hr2:rate<=4000) (h0: -10000<=s) (h1:s+push<=6000) (hp:0<=push) (hp2:push<=2000):
  Calls Tryz.prog 94 #[.agg #[.int .i64 lo,.int .i64 hi,.int .i64 noise,.int .i64 push,.int .i64 most,.int .i64 rate],.int .i64 s] w fun e w'=>
   e= .returned (.int .i64 (zE push rate s))/\w.alloc (.cells #[.int .i64 lo,.int .i64 hi,.int .i64 noise,.int .i64 push,.int .i64 most,.int .i64 rate] 111)=w':=by
 go_enter Tryz.func94,Tryz.ntmps94
 go_wp2
 go_loop [1,5] (fun t n=>∃x y:Int,t= .int .i64 x/\n= .int .i64 y/\ -10000<=x/\x+push<=6000/\0<=y/\y+zE push rate x<=36006000/\Hid (y+zE push rate x=zE push rate s)) (fun t _=>(intOf t+push).toNat)
 case atStart=>exact⟨s,0,rfl,rfl,h0,h1,by omega,by have:=wF hr hr2 h1;omega,Int.zero_add _⟩
 case round=>
  obtain⟨x,y,rfl,rfl,g1,g2,g3,g4,g5⟩:=hrel
  have hn:=jH hr x (push:=push)
  by_cases hx:0<x+push
  ·have hst:=xA hr hx
   have hn2:=jH hr (x-rate) (push:=push)
   have g6:y+x+push+zE push rate (x-rate)<=36006000:=by omega
   have g7:Hid (y+x+push+zE push rate (x-rate)=zE push rate s):=by have:=g5.out;unfold Hid;omega
   clear hst g5 g4 hn
   go_wp2
   go_round
   case rel=>exact⟨_,_,rfl,rfl,by omega,by omega,by omega,g6,g7⟩
   case measure=>simp[intOf];omega
  ·have hz:Hid (y=zE push rate s):=by have:=g5.out;rw[qM (by omega:x+push<=0)]at this;unfold Hid;omega
   clear g5 g4 hn
   go_wp2
   go_ret
   exact⟨zD hz.out,rfl⟩
end Go.Proofs.YtoakpnoajmngmaaGreatDoor
