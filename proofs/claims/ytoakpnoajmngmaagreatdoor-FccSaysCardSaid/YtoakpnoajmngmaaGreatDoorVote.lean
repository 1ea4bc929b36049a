import Derived.Test.YtoakpnoajmngmaaGreatDoorFix
import Derived.Test.YtoakpnoajmngmaaGreatDoorWgPl
import Derived.Test.YtoakpnoajmngmaaGreatDoorGuard
import Derived.BigGuardPart
import Derived.Handy
import Derived.Deep.RegionHeld3
import Derived.Deep.QuietTactic
import Derived.BigQuiet
import Derived.Test.YtoakpnoajmngmaaGreatDoorGuard4
set_option linter.unusedVariables false
set_option linter.unusedSimpArgs false
namespace Go.Proofs.YtoakpnoajmngmaaGreatDoor
open Go.RowKit
set_option maxHeartbeats 400000 in
theorem yE (travel rate slack confirm:Int) (w:World):Calls Tryz.prog 93 #[.agg #[.int .i64 travel,.int .i64 rate,.int .i64 slack,.int .i64 confirm]] w fun e w'=>
  e= .returned (qp (z8 travel rate slack confirm))/\w.alloc (.cells #[.int .i64 travel,.int .i64 rate,.int .i64 slack,.int .i64 confirm] 77)=w':=by
 have hE:Hid (z8 travel rate slack confirm=if 1<=travel/\travel<=1000/\1<=rate/\rate<=travel/\0<=slack/\slack<=travel/\1<=confirm/\confirm<=10 then 0 else 1):=rfl
 generalize z8 travel rate slack confirm=r at*
 go_enter Tryz.func93,Tryz.ntmps93
 go_wp2
 all_goals go_ret
 all_goals refine⟨?_,rfl⟩
 all_goals rw[hE.out]
 all_goals first|(rw[if_neg (by omega)];rfl)|(rw[if_pos (by omega)];rfl)
set_option maxHeartbeats 400000 in
theorem gq (travel rate slack confirm:Int) (w:World):Calls Tryz.prog 59 #[.agg #[.int .i64 travel,.int .i64 rate,.int .i64 slack,.int .i64 confirm]] w fun e w'=>
  e= .returned (.int .i64 (z8 travel rate slack confirm))/\w.alloc (.cells #[.int .i64 travel,.int .i64 rate,.int .i64 slack,.int .i64 confirm] 77)=w':=by
 have hE:Hid (z8 travel rate slack confirm=if 1<=travel/\travel<=1000/\1<=rate/\rate<=travel/\0<=slack/\slack<=travel/\1<=confirm/\confirm<=10 then 0 else 1):=rfl
 generalize z8 travel rate slack confirm=r at*
 go_enter Tryz.func59,Tryz.ntmps59
 go_wp2_with (first|(go_at_call 20;((with_reducible refine(qH _ _ _ _).mono ?_);rintro e w' ⟨rfl,rfl⟩))|(go_at_call 8;((with_reducible refine(yg _ _ _).mono ?_);rintro e w' ⟨rfl,rfl⟩)))
 all_goals go_ret
 all_goals refine⟨zD ?_,rfl⟩
 all_goals rw[hE.out]
 all_goals(try unfold mV)
 all_goals(try simp only[Bool.or_eq_true,Bool.not_eq_true',decide_eq_false_iff_not]at*)
 all_goals(repeat' split)
 all_goals omega
set_option maxHeartbeats 400000 in
theorem qZ (travel rate slack confirm is bad:Int) (out:Bool) (w:World):
  Calls Tryz.prog 48 #[.agg #[.int .i64 travel,.int .i64 rate,.int .i64 slack,.int .i64 confirm],.agg #[.int .i64 is,.int .i64 bad,.bool out]] w fun e w'=>
  e= .returned (qp (zj travel rate slack confirm is bad out))/\Below w.heap.size w w':=by
 by_cases h1:gD travel rate slack confirm
 ·have hr:=jQ h1
  have hr2:(z8 travel rate slack confirm !=0)=false:=by rw[hr];rfl
  obtain⟨a1,a2,a3,a4,a5,a6,a7,a8⟩:=h1
  have hE:Hid (zj travel rate slack confirm is bad out=if -travel<=is/\is<=travel/\0<=bad/\bad<=confirm/\(out=true->is=0)/\(out=false->bad≠confirm)then 0 else 3):=by
   unfold Hid zj
   rw[if_pos hr]
  generalize zj travel rate slack confirm is bad out=r at*
  clear hr
  cases out
  all_goals
   go_enter Tryz.func48,Tryz.ntmps48
   go_wp2_with (go_at_call 93;((with_reducible refine(yE _ _ _ _ _).mono ?_);rintro e w' ⟨rfl,rfl⟩))
   all_goals go_ret
   all_goals refine⟨?_,by(repeat'(first|(with_reducible exact Below.refl _ _)|(with_reducible assumption)|(with_reducible refine Below.alloc ?_ ?_ _)|(with_reducible refine Below.drew ?_)|(with_reducible refine below_drewN ?_ _)|(with_reducible refine Below.setCell ?_ ?_ _)|(with_reducible refine Below.trans ?_ (Below.mono (by assumption) ?_))|omega|(simp;omega)|(simp;done)))⟩
   all_goals rw[hE.out]
   all_goals(try simp only[beq_iff_eq,beq_eq_false_iff_ne,bne_eq_false_iff_eq,ne_eq]at*)
   all_goals first|(rw[if_neg (by simp;omega)];rfl)|(rw[if_pos (by simp;omega)];rfl)
 ·have hr:z8 travel rate slack confirm=1:=gE h1
  have hr2:(z8 travel rate slack confirm !=0)=true:=by rw[hr];rfl
  have hE:Hid (zj travel rate slack confirm is bad out=z8 travel rate slack confirm):=(Xe h1).trans hr.symm
  clear hr h1
  generalize zj travel rate slack confirm is bad out=r at*
  go_enter Tryz.func48,Tryz.ntmps48
  go_wp2_with (go_at_call 93;((with_reducible refine(yE _ _ _ _ _).mono ?_);rintro e w' ⟨rfl,rfl⟩))
  go_ret
  exact⟨by rw[hE.out];rfl,by(repeat'(first|(with_reducible exact Below.refl _ _)|(with_reducible assumption)|(with_reducible refine Below.alloc ?_ ?_ _)|(with_reducible refine Below.drew ?_)|(with_reducible refine below_drewN ?_ _)|(with_reducible refine Below.setCell ?_ ?_ _)|(with_reducible refine Below.trans ?_ (Below.mono (by assumption) ?_))|omega|(simp;omega)|(simp;done)))⟩
end Go.Proofs.YtoakpnoajmngmaaGreatDoor
namespace Go.Proofs.YtoakpnoajmngmaaGreatDoor
open Go.RowKit
set_option maxHeartbeats 400000 in
theorem vI (travel rate slack confirm is bad:Int) (w:World) (h:zj travel rate slack confirm is bad true=0):
  Calls Tryz.prog 119 #[.agg #[.int .i64 travel,.int .i64 rate,.int .i64 slack,.int .i64 confirm],.agg #[.int .i64 is,.int .i64 bad,.bool true]] w fun e w'=>
  e= .returned (.tuple #[.agg #[.int .i64 0,.int .i64 0],qp 0])/\Below w.heap.size w w':=by
 have hr2:(zj travel rate slack confirm is bad true !=0)=false:=by rw[h];rfl
 have H:=Lib.hid h
 clear h
 go_enter Tryz.func119,Tryz.ntmps119
 go_wp2_with (go_at_call 48;((with_reducible refine(qZ _ _ _ _ _ _ _ _).mono ?_);rintro e w1 ⟨rfl,hb1⟩;have hz1:=hb1.size;(repeat(first|simp only[World.size_alloc]at hz1|simp only[World.size_drew]at hz1|simp only[World.size_setCell]at hz1));have hB1:Below w.heap.size w w1:=by(repeat'(first|(with_reducible exact Below.refl _ _)|(with_reducible assumption)|(with_reducible refine Below.alloc ?_ ?_ _)|(with_reducible refine Below.drew ?_)|(with_reducible refine below_drewN ?_ _)|(with_reducible refine Below.setCell ?_ ?_ _)|(with_reducible refine Below.trans ?_ (Below.mono (by assumption) ?_))|omega|(simp;omega)|(simp;done))));(have hq1_0:=fun o:Nat=>hb1.cell (p:=⟨w.heap.size,o,none⟩) (by first|omega|(simp;done)|(simp;omega)));(have hf1_0:=fun o:Nat=>hb1.frozen (p:=⟨w.heap.size,o,none⟩) (by first|omega|(simp;done)|(simp;omega)));(have hy1_0:w.heap.size<w1.heap.size:=by omega);(have hq1_1:=fun o:Nat=>hb1.cell (p:=⟨w.heap.size+1,o,none⟩) (by first|omega|(simp;done)|(simp;omega)));(have hf1_1:=fun o:Nat=>hb1.frozen (p:=⟨w.heap.size+1,o,none⟩) (by first|omega|(simp;done)|(simp;omega)));(have hy1_1:w.heap.size+1<w1.heap.size:=by omega);(have hq1_2:=fun o:Nat=>hb1.cell (p:=⟨w.heap.size+1+1,o,none⟩) (by first|omega|(simp;done)|(simp;omega)));(have hf1_2:=fun o:Nat=>hb1.frozen (p:=⟨w.heap.size+1+1,o,none⟩) (by first|omega|(simp;done)|(simp;omega)));(have hy1_2:w.heap.size+1+1<w1.heap.size:=by omega);clear hb1)
 refine bodyPost_ret (v:= .tuple #[.agg #[.int .i64 0,.int .i64 0],qp (zj travel rate slack confirm is bad true)]) ?_ rfl ⟨by rw[H.out],by(repeat'(first|(with_reducible exact Below.refl _ _)|(with_reducible assumption)|(with_reducible refine Below.alloc ?_ ?_ _)|(with_reducible refine Below.drew ?_)|(with_reducible refine below_drewN ?_ _)|(with_reducible refine Below.setCell ?_ ?_ _)|(with_reducible refine Below.trans ?_ (Below.mono (by assumption) ?_))|omega|(simp;omega)|(simp;done)))⟩
 simp[results,Tryz.results119,go_sem,hq1_2]
set_option maxHeartbeats 400000 in
theorem Kq (travel rate slack confirm is bad:Int) (out:Bool) (w:World) (h:¬zj travel rate slack confirm is bad out=0):
  Calls Tryz.prog 119 #[.agg #[.int .i64 travel,.int .i64 rate,.int .i64 slack,.int .i64 confirm],.agg #[.int .i64 is,.int .i64 bad,.bool out]] w fun e w'=>
  e= .returned (.tuple #[.agg #[.int .i64 0,.int .i64 0],qp (zj travel rate slack confirm is bad out)])/\Below w.heap.size w w':=by
 have hr2:(zj travel rate slack confirm is bad out !=0)=true:=by simpa using h
 clear h
 go_enter Tryz.func119,Tryz.ntmps119
 go_wp2_with (go_at_call 48;((with_reducible refine(qZ _ _ _ _ _ _ _ _).mono ?_);rintro e w1 ⟨rfl,hb1⟩;have hz1:=hb1.size;(repeat(first|simp only[World.size_alloc]at hz1|simp only[World.size_drew]at hz1|simp only[World.size_setCell]at hz1));have hB1:Below w.heap.size w w1:=by(repeat'(first|(with_reducible exact Below.refl _ _)|(with_reducible assumption)|(with_reducible refine Below.alloc ?_ ?_ _)|(with_reducible refine Below.drew ?_)|(with_reducible refine below_drewN ?_ _)|(with_reducible refine Below.setCell ?_ ?_ _)|(with_reducible refine Below.trans ?_ (Below.mono (by assumption) ?_))|omega|(simp;omega)|(simp;done))));(have hq1_0:=fun o:Nat=>hb1.cell (p:=⟨w.heap.size,o,none⟩) (by first|omega|(simp;done)|(simp;omega)));(have hf1_0:=fun o:Nat=>hb1.frozen (p:=⟨w.heap.size,o,none⟩) (by first|omega|(simp;done)|(simp;omega)));(have hy1_0:w.heap.size<w1.heap.size:=by omega);(have hq1_1:=fun o:Nat=>hb1.cell (p:=⟨w.heap.size+1,o,none⟩) (by first|omega|(simp;done)|(simp;omega)));(have hf1_1:=fun o:Nat=>hb1.frozen (p:=⟨w.heap.size+1,o,none⟩) (by first|omega|(simp;done)|(simp;omega)));(have hy1_1:w.heap.size+1<w1.heap.size:=by omega);(have hq1_2:=fun o:Nat=>hb1.cell (p:=⟨w.heap.size+1+1,o,none⟩) (by first|omega|(simp;done)|(simp;omega)));(have hf1_2:=fun o:Nat=>hb1.frozen (p:=⟨w.heap.size+1+1,o,none⟩) (by first|omega|(simp;done)|(simp;omega)));(have hy1_2:w.heap.size+1+1<w1.heap.size:=by omega);clear hb1)
 refine bodyPost_ret (v:= .tuple #[.agg #[.int .i64 0,.int .i64 0],qp (zj travel rate slack confirm is bad out)]) ?_ rfl ⟨rfl,by(repeat'(first|(with_reducible exact Below.refl _ _)|(with_reducible assumption)|(with_reducible refine Below.alloc ?_ ?_ _)|(with_reducible refine Below.drew ?_)|(with_reducible refine below_drewN ?_ _)|(with_reducible refine Below.setCell ?_ ?_ _)|(with_reducible refine Below.trans ?_ (Below.mono (by assumption) ?_))|omega|(simp;omega)|(simp;done)))⟩
 simp[results,Tryz.results119,go_sem,hq1_2]
set_option maxHeartbeats 400000 in
theorem mB (travel rate slack confirm is bad lo hi:Int) (w:World) (h:zj travel rate slack confirm is bad false=0) (hlo:Hid (lo=Xf travel rate is)) (hhi:Hid (hi=Xg travel rate is)):
  Calls Tryz.prog 119 #[.agg #[.int .i64 travel,.int .i64 rate,.int .i64 slack,.int .i64 confirm],.agg #[.int .i64 is,.int .i64 bad,.bool false]] w fun e w'=>
  e= .returned (.tuple #[.agg #[.int .i64 lo,.int .i64 hi],qp 0])/\Below w.heap.size w w':=by
 have hr2:(zj travel rate slack confirm is bad false !=0)=false:=by rw[h];rfl
 obtain⟨⟨a1,a2,a3,a4,a5,a6,a7,a8⟩,b1,b2,b3,b4,_,_⟩:=zU h
 clear h
 have c1:(is-rate< -travel/\lo= -travel)\/(-travel<=is-rate/\lo=is-rate):=by
  have:=hlo.out;unfold Xf at this;omega
 have c2:(is+rate<=travel/\hi=is+rate)\/(travel<is+rate/\hi=travel):=by
  have:=hhi.out;unfold Xg at this;omega
 clear hlo hhi
 have hz0:zj travel rate slack confirm is bad false=0:=by simpa using hr2
 have HZ:=Lib.hid hz0
 clear hz0
 rcases c1 with⟨c1,e1⟩|⟨c1,e1⟩
 ·have E1:=Lib.hid e1
  clear e1
  rcases c2 with⟨c2,e2⟩|⟨c2,e2⟩
  ·have E2:=Lib.hid e2
   clear e2
   go_enter Tryz.func119,Tryz.ntmps119
   go_wp2_with (go_at_call 48;((with_reducible refine(qZ _ _ _ _ _ _ _ _).mono ?_);rintro e w1 ⟨rfl,hb1⟩;have hz1:=hb1.size;(repeat(first|simp only[World.size_alloc]at hz1|simp only[World.size_drew]at hz1|simp only[World.size_setCell]at hz1));have hB1:Below w.heap.size w w1:=by(repeat'(first|(with_reducible exact Below.refl _ _)|(with_reducible assumption)|(with_reducible refine Below.alloc ?_ ?_ _)|(with_reducible refine Below.drew ?_)|(with_reducible refine below_drewN ?_ _)|(with_reducible refine Below.setCell ?_ ?_ _)|(with_reducible refine Below.trans ?_ (Below.mono (by assumption) ?_))|omega|(simp;omega)|(simp;done))));(have hq1_0:=fun o:Nat=>hb1.cell (p:=⟨w.heap.size,o,none⟩) (by first|omega|(simp;done)|(simp;omega)));(have hf1_0:=fun o:Nat=>hb1.frozen (p:=⟨w.heap.size,o,none⟩) (by first|omega|(simp;done)|(simp;omega)));(have hy1_0:w.heap.size<w1.heap.size:=by omega);(have hq1_1:=fun o:Nat=>hb1.cell (p:=⟨w.heap.size+1,o,none⟩) (by first|omega|(simp;done)|(simp;omega)));(have hf1_1:=fun o:Nat=>hb1.frozen (p:=⟨w.heap.size+1,o,none⟩) (by first|omega|(simp;done)|(simp;omega)));(have hy1_1:w.heap.size+1<w1.heap.size:=by omega);(have hq1_2:=fun o:Nat=>hb1.cell (p:=⟨w.heap.size+1+1,o,none⟩) (by first|omega|(simp;done)|(simp;omega)));(have hf1_2:=fun o:Nat=>hb1.frozen (p:=⟨w.heap.size+1+1,o,none⟩) (by first|omega|(simp;done)|(simp;omega)));(have hy1_2:w.heap.size+1+1<w1.heap.size:=by omega);clear hb1)
   refine bodyPost_ret (v:= .tuple #[.agg #[.int .i64 (-travel),.int .i64 (is+rate)],.nilIface]) ?_ rfl ⟨by rw[E1.out,E2.out];rfl,by(repeat'(first|(with_reducible exact Below.refl _ _)|(with_reducible assumption)|(with_reducible refine Below.alloc ?_ ?_ _)|(with_reducible refine Below.drew ?_)|(with_reducible refine below_drewN ?_ _)|(with_reducible refine Below.setCell ?_ ?_ _)|(with_reducible refine Below.trans ?_ (Below.mono (by assumption) ?_))|omega|(simp;omega)|(simp;done)))⟩
   simp[results,Tryz.results119,go_sem,hq1_2]
  ·exfalso;omega
 ·have E1:=Lib.hid e1
  clear e1
  rcases c2 with⟨c2,e2⟩|⟨c2,e2⟩
  ·have E2:=Lib.hid e2
   clear e2
   go_enter Tryz.func119,Tryz.ntmps119
   go_wp2_with (go_at_call 48;((with_reducible refine(qZ _ _ _ _ _ _ _ _).mono ?_);rintro e w1 ⟨rfl,hb1⟩;have hz1:=hb1.size;(repeat(first|simp only[World.size_alloc]at hz1|simp only[World.size_drew]at hz1|simp only[World.size_setCell]at hz1));have hB1:Below w.heap.size w w1:=by(repeat'(first|(with_reducible exact Below.refl _ _)|(with_reducible assumption)|(with_reducible refine Below.alloc ?_ ?_ _)|(with_reducible refine Below.drew ?_)|(with_reducible refine below_drewN ?_ _)|(with_reducible refine Below.setCell ?_ ?_ _)|(with_reducible refine Below.trans ?_ (Below.mono (by assumption) ?_))|omega|(simp;omega)|(simp;done))));(have hq1_0:=fun o:Nat=>hb1.cell (p:=⟨w.heap.size,o,none⟩) (by first|omega|(simp;done)|(simp;omega)));(have hf1_0:=fun o:Nat=>hb1.frozen (p:=⟨w.heap.size,o,none⟩) (by first|omega|(simp;done)|(simp;omega)));(have hy1_0:w.heap.size<w1.heap.size:=by omega);(have hq1_1:=fun o:Nat=>hb1.cell (p:=⟨w.heap.size+1,o,none⟩) (by first|omega|(simp;done)|(simp;omega)));(have hf1_1:=fun o:Nat=>hb1.frozen (p:=⟨w.heap.size+1,o,none⟩) (by first|omega|(simp;done)|(simp;omega)));(have hy1_1:w.heap.size+1<w1.heap.size:=by omega);(have hq1_2:=fun o:Nat=>hb1.cell (p:=⟨w.heap.size+1+1,o,none⟩) (by first|omega|(simp;done)|(simp;omega)));(have hf1_2:=fun o:Nat=>hb1.frozen (p:=⟨w.heap.size+1+1,o,none⟩) (by first|omega|(simp;done)|(simp;omega)));(have hy1_2:w.heap.size+1+1<w1.heap.size:=by omega);clear hb1)
   refine bodyPost_ret (v:= .tuple #[.agg #[.int .i64 (is-rate),.int .i64 (is+rate)],.nilIface]) ?_ rfl ⟨by rw[E1.out,E2.out];rfl,by(repeat'(first|(with_reducible exact Below.refl _ _)|(with_reducible assumption)|(with_reducible refine Below.alloc ?_ ?_ _)|(with_reducible refine Below.drew ?_)|(with_reducible refine below_drewN ?_ _)|(with_reducible refine Below.setCell ?_ ?_ _)|(with_reducible refine Below.trans ?_ (Below.mono (by assumption) ?_))|omega|(simp;omega)|(simp;done)))⟩
   simp[results,Tryz.results119,go_sem,hq1_2]
  ·have E2:=Lib.hid e2
   clear e2
   go_enter Tryz.func119,Tryz.ntmps119
   go_wp2_with (go_at_call 48;((with_reducible refine(qZ _ _ _ _ _ _ _ _).mono ?_);rintro e w1 ⟨rfl,hb1⟩;have hz1:=hb1.size;(repeat(first|simp only[World.size_alloc]at hz1|simp only[World.size_drew]at hz1|simp only[World.size_setCell]at hz1));have hB1:Below w.heap.size w w1:=by(repeat'(first|(with_reducible exact Below.refl _ _)|(with_reducible assumption)|(with_reducible refine Below.alloc ?_ ?_ _)|(with_reducible refine Below.drew ?_)|(with_reducible refine below_drewN ?_ _)|(with_reducible refine Below.setCell ?_ ?_ _)|(with_reducible refine Below.trans ?_ (Below.mono (by assumption) ?_))|omega|(simp;omega)|(simp;done))));(have hq1_0:=fun o:Nat=>hb1.cell (p:=⟨w.heap.size,o,none⟩) (by first|omega|(simp;done)|(simp;omega)));(have hf1_0:=fun o:Nat=>hb1.frozen (p:=⟨w.heap.size,o,none⟩) (by first|omega|(simp;done)|(simp;omega)));(have hy1_0:w.heap.size<w1.heap.size:=by omega);(have hq1_1:=fun o:Nat=>hb1.cell (p:=⟨w.heap.size+1,o,none⟩) (by first|omega|(simp;done)|(simp;omega)));(have hf1_1:=fun o:Nat=>hb1.frozen (p:=⟨w.heap.size+1,o,none⟩) (by first|omega|(simp;done)|(simp;omega)));(have hy1_1:w.heap.size+1<w1.heap.size:=by omega);(have hq1_2:=fun o:Nat=>hb1.cell (p:=⟨w.heap.size+1+1,o,none⟩) (by first|omega|(simp;done)|(simp;omega)));(have hf1_2:=fun o:Nat=>hb1.frozen (p:=⟨w.heap.size+1+1,o,none⟩) (by first|omega|(simp;done)|(simp;omega)));(have hy1_2:w.heap.size+1+1<w1.heap.size:=by omega);clear hb1)
   refine bodyPost_ret (v:= .tuple #[.agg #[.int .i64 (is-rate),.int .i64 (travel)],.nilIface]) ?_ rfl ⟨by rw[E1.out,E2.out];rfl,by(repeat'(first|(with_reducible exact Below.refl _ _)|(with_reducible assumption)|(with_reducible refine Below.alloc ?_ ?_ _)|(with_reducible refine Below.drew ?_)|(with_reducible refine below_drewN ?_ _)|(with_reducible refine Below.setCell ?_ ?_ _)|(with_reducible refine Below.trans ?_ (Below.mono (by assumption) ?_))|omega|(simp;omega)|(simp;done)))⟩
   simp[results,Tryz.results119,go_sem,hq1_2]
end Go.Proofs.YtoakpnoajmngmaaGreatDoor
namespace Go.Proofs.YtoakpnoajmngmaaGreatDoor
open Go.RowKit
theorem GK (x:Int):zm x 0 0=0:=by
 unfold zm
 repeat' split
 all_goals omega
set_option maxHeartbeats 400000 in
theorem YK (travel rate slack confirm is bad tz:Int) (w:World) (h:zj travel rate slack confirm is bad true=0):
  Calls Tryz.prog 86 #[.agg #[.int .i64 travel,.int .i64 rate,.int .i64 slack,.int .i64 confirm],.agg #[.int .i64 is,.int .i64 bad,.bool true],.int .i64 tz] w fun e w'=>
  e= .returned (.tuple #[.agg #[.int .i64 0,.int .i64 bad,.bool true],qp 0])/\Below w.heap.size w w':=by
 have hr2:(zj travel rate slack confirm is bad true !=0)=false:=by rw[h];rfl
 have H:=Lib.hid h
 have hc:zm tz 0 0=0:=by exact GK tz
 clear h
 go_enter Tryz.func86,Tryz.ntmps86
 go_wp2_with (first|(go_at_call 119;((with_reducible refine(vI _ _ _ _ _ _ _ H.out).mono ?_);rintro e w1 ⟨rfl,hb1⟩;have hz1:=hb1.size;(repeat(first|simp only[World.size_alloc]at hz1|simp only[World.size_drew]at hz1|simp only[World.size_setCell]at hz1));have hB1:Below w.heap.size w w1:=by(repeat'(first|(with_reducible exact Below.refl _ _)|(with_reducible assumption)|(with_reducible refine Below.alloc ?_ ?_ _)|(with_reducible refine Below.drew ?_)|(with_reducible refine below_drewN ?_ _)|(with_reducible refine Below.setCell ?_ ?_ _)|(with_reducible refine Below.trans ?_ (Below.mono (by assumption) ?_))|omega|(simp;omega)|(simp;done))));(have hq1_0:=fun o:Nat=>hb1.cell (p:=⟨w.heap.size,o,none⟩) (by first|omega|(simp;done)|(simp;omega)));(have hf1_0:=fun o:Nat=>hb1.frozen (p:=⟨w.heap.size,o,none⟩) (by first|omega|(simp;done)|(simp;omega)));(have hy1_0:w.heap.size<w1.heap.size:=by omega);(have hq1_1:=fun o:Nat=>hb1.cell (p:=⟨w.heap.size+1,o,none⟩) (by first|omega|(simp;done)|(simp;omega)));(have hf1_1:=fun o:Nat=>hb1.frozen (p:=⟨w.heap.size+1,o,none⟩) (by first|omega|(simp;done)|(simp;omega)));(have hy1_1:w.heap.size+1<w1.heap.size:=by omega);(have hq1_2:=fun o:Nat=>hb1.cell (p:=⟨w.heap.size+1+1,o,none⟩) (by first|omega|(simp;done)|(simp;omega)));(have hf1_2:=fun o:Nat=>hb1.frozen (p:=⟨w.heap.size+1+1,o,none⟩) (by first|omega|(simp;done)|(simp;omega)));(have hy1_2:w.heap.size+1+1<w1.heap.size:=by omega);clear hb1)|(go_at_call 80;((with_reducible refine(kL _ _ _ _).mono ?_);rintro e w' ⟨rfl,rfl⟩)))
 refine bodyPost_ret (v:= .tuple #[.agg #[.int .i64 0,.int .i64 bad,.bool true],.nilIface]) ?_ rfl ⟨rfl,by(repeat'(first|(with_reducible exact Below.refl _ _)|(with_reducible assumption)|(with_reducible refine Below.alloc ?_ ?_ _)|(with_reducible refine Below.drew ?_)|(with_reducible refine below_drewN ?_ _)|(with_reducible refine Below.setCell ?_ ?_ _)|(with_reducible refine Below.trans ?_ (Below.mono (by assumption) ?_))|omega|(simp;omega)|(simp;done)))⟩
 simp[results,Tryz.results86,go_sem,hq1_2,hy1_2]
set_option maxHeartbeats 400000 in
theorem VN (travel rate slack confirm is bad tz:Int) (w:World) (h:zj travel rate slack confirm is bad false=0):
  Calls Tryz.prog 86 #[.agg #[.int .i64 travel,.int .i64 rate,.int .i64 slack,.int .i64 confirm],.agg #[.int .i64 is,.int .i64 bad,.bool false],.int .i64 tz] w fun e w'=>
  e= .returned (.tuple #[.agg #[.int .i64 (zm tz (Xf travel rate is) (Xg travel rate is)),.int .i64 bad,.bool false],qp 0])/\Below w.heap.size w w':=by
 have hr2:(zj travel rate slack confirm is bad false !=0)=false:=by rw[h];rfl
 have H:=Lib.hid h
 clear h
 obtain⟨lo,hlo⟩:∃lo,Hid (lo=Xf travel rate is):=⟨_,rfl⟩
 obtain⟨hi,hhi⟩:∃hi,Hid (hi=Xg travel rate is):=⟨_,rfl⟩
 go_enter Tryz.func86,Tryz.ntmps86
 go_wp2_with (first|(go_at_call 119;((with_reducible refine(mB _ _ _ _ _ _ lo hi _ H.out hlo hhi).mono ?_);rintro e w1 ⟨rfl,hb1⟩;have hz1:=hb1.size;(repeat(first|simp only[World.size_alloc]at hz1|simp only[World.size_drew]at hz1|simp only[World.size_setCell]at hz1));have hB1:Below w.heap.size w w1:=by(repeat'(first|(with_reducible exact Below.refl _ _)|(with_reducible assumption)|(with_reducible refine Below.alloc ?_ ?_ _)|(with_reducible refine Below.drew ?_)|(with_reducible refine below_drewN ?_ _)|(with_reducible refine Below.setCell ?_ ?_ _)|(with_reducible refine Below.trans ?_ (Below.mono (by assumption) ?_))|omega|(simp;omega)|(simp;done))));(have hq1_0:=fun o:Nat=>hb1.cell (p:=⟨w.heap.size,o,none⟩) (by first|omega|(simp;done)|(simp;omega)));(have hf1_0:=fun o:Nat=>hb1.frozen (p:=⟨w.heap.size,o,none⟩) (by first|omega|(simp;done)|(simp;omega)));(have hy1_0:w.heap.size<w1.heap.size:=by omega);(have hq1_1:=fun o:Nat=>hb1.cell (p:=⟨w.heap.size+1,o,none⟩) (by first|omega|(simp;done)|(simp;omega)));(have hf1_1:=fun o:Nat=>hb1.frozen (p:=⟨w.heap.size+1,o,none⟩) (by first|omega|(simp;done)|(simp;omega)));(have hy1_1:w.heap.size+1<w1.heap.size:=by omega);(have hq1_2:=fun o:Nat=>hb1.cell (p:=⟨w.heap.size+1+1,o,none⟩) (by first|omega|(simp;done)|(simp;omega)));(have hf1_2:=fun o:Nat=>hb1.frozen (p:=⟨w.heap.size+1+1,o,none⟩) (by first|omega|(simp;done)|(simp;omega)));(have hy1_2:w.heap.size+1+1<w1.heap.size:=by omega);clear hb1)|(go_at_call 80;((with_reducible refine(kL _ _ _ _).mono ?_);rintro e w' ⟨rfl,rfl⟩)))
 refine bodyPost_ret (v:= .tuple #[.agg #[.int .i64 (zm tz lo hi),.int .i64 bad,.bool false],.nilIface]) ?_ rfl ⟨by rw[hlo.out,hhi.out];rfl,by(repeat'(first|(with_reducible exact Below.refl _ _)|(with_reducible assumption)|(with_reducible refine Below.alloc ?_ ?_ _)|(with_reducible refine Below.drew ?_)|(with_reducible refine below_drewN ?_ _)|(with_reducible refine Below.setCell ?_ ?_ _)|(with_reducible refine Below.trans ?_ (Below.mono (by assumption) ?_))|omega|(simp;omega)|(simp;done)))⟩
 simp[results,Tryz.results86,go_sem,hq1_2,hy1_2]
end Go.Proofs.YtoakpnoajmngmaaGreatDoor
namespace Go.Proofs.YtoakpnoajmngmaaGreatDoor
open Go.RowKit
set_option maxHeartbeats 400000 in
theorem Kr (travel rate slack confirm is bad x:Int) (there:Bool) (w:World) (h:zj travel rate slack confirm is bad true=0):
  Calls Tryz.prog 76 #[.agg #[.int .i64 travel,.int .i64 rate,.int .i64 slack,.int .i64 confirm],.agg #[.int .i64 is,.int .i64 bad,.bool true],.agg #[.bool there,.int .i64 x]] w fun e w'=>
  e= .returned (.tuple #[.agg #[.int .i64 is,.int .i64 bad,.bool true],qp 0])/\Below w.heap.size w w':=by
 have hr2:(zj travel rate slack confirm is bad true !=0)=false:=by rw[h];rfl
 clear h
 go_enter Tryz.func76,Tryz.ntmps76
 go_wp2_with (go_at_call 48;((with_reducible refine(qZ _ _ _ _ _ _ _ _).mono ?_);rintro e w1 ⟨rfl,hb1⟩;have hz1:=hb1.size;(repeat(first|simp only[World.size_alloc]at hz1|simp only[World.size_drew]at hz1|simp only[World.size_setCell]at hz1));have hB1:Below w.heap.size w w1:=by(repeat'(first|(with_reducible exact Below.refl _ _)|(with_reducible assumption)|(with_reducible refine Below.alloc ?_ ?_ _)|(with_reducible refine Below.drew ?_)|(with_reducible refine below_drewN ?_ _)|(with_reducible refine Below.setCell ?_ ?_ _)|(with_reducible refine Below.trans ?_ (Below.mono (by assumption) ?_))|omega|(simp;omega)|(simp;done))));(have hq1_0:=fun o:Nat=>hb1.cell (p:=⟨w.heap.size,o,none⟩) (by first|omega|(simp;done)|(simp;omega)));(have hf1_0:=fun o:Nat=>hb1.frozen (p:=⟨w.heap.size,o,none⟩) (by first|omega|(simp;done)|(simp;omega)));(have hy1_0:w.heap.size<w1.heap.size:=by omega);(have hq1_1:=fun o:Nat=>hb1.cell (p:=⟨w.heap.size+1,o,none⟩) (by first|omega|(simp;done)|(simp;omega)));(have hf1_1:=fun o:Nat=>hb1.frozen (p:=⟨w.heap.size+1,o,none⟩) (by first|omega|(simp;done)|(simp;omega)));(have hy1_1:w.heap.size+1<w1.heap.size:=by omega);(have hq1_2:=fun o:Nat=>hb1.cell (p:=⟨w.heap.size+1+1,o,none⟩) (by first|omega|(simp;done)|(simp;omega)));(have hf1_2:=fun o:Nat=>hb1.frozen (p:=⟨w.heap.size+1+1,o,none⟩) (by first|omega|(simp;done)|(simp;omega)));(have hy1_2:w.heap.size+1+1<w1.heap.size:=by omega);(have hq1_3:=fun o:Nat=>hb1.cell (p:=⟨w.heap.size+1+1+1,o,none⟩) (by first|omega|(simp;done)|(simp;omega)));(have hf1_3:=fun o:Nat=>hb1.frozen (p:=⟨w.heap.size+1+1+1,o,none⟩) (by first|omega|(simp;done)|(simp;omega)));(have hy1_3:w.heap.size+1+1+1<w1.heap.size:=by omega);clear hb1)
 go_quiet (fail)
 go_wp2
 refine bodyPost_ret (v:= .tuple #[.agg #[.int .i64 is,.int .i64 bad,.bool true],.nilIface]) ?_ rfl ⟨rfl,by(repeat'(first|(with_reducible exact Below.refl _ _)|(with_reducible assumption)|(with_reducible refine Below.alloc ?_ ?_ _)|(with_reducible refine Below.drew ?_)|(with_reducible refine below_drewN ?_ _)|(with_reducible refine Below.setCell ?_ ?_ _)|(with_reducible refine Below.trans ?_ (Below.mono (by assumption) ?_))|omega|(simp;omega)|(simp;done)))⟩
 simp[results,Tryz.results76,go_sem,hq1_3]
set_option maxHeartbeats 400000 in
theorem vh (travel rate slack confirm is bad x:Int) (w:World) (h:zj travel rate slack confirm is bad false=0) (hc:bad+1=confirm):
  Calls Tryz.prog 76 #[.agg #[.int .i64 travel,.int .i64 rate,.int .i64 slack,.int .i64 confirm],.agg #[.int .i64 is,.int .i64 bad,.bool false],.agg #[.bool false,.int .i64 x]] w fun e w'=>
  e= .returned (.tuple #[.agg #[.int .i64 0,.int .i64 (bad+1),.bool true],qp 0])/\Below w.heap.size w w':=by
 have hr2:(zj travel rate slack confirm is bad false !=0)=false:=by rw[h];rfl
 obtain⟨⟨a1,a2,a3,a4,a5,a6,a7,a8⟩,b1,b2,b3,b4,_,b6⟩:=zU h
 clear h b6
 have hcb:(bad+1==confirm)=true:=by simpa using hc
 clear hc
 go_enter Tryz.func76,Tryz.ntmps76
 go_wp2_with (go_at_call 48;((with_reducible refine(qZ _ _ _ _ _ _ _ _).mono ?_);rintro e w1 ⟨rfl,hb1⟩;have hz1:=hb1.size;(repeat(first|simp only[World.size_alloc]at hz1|simp only[World.size_drew]at hz1|simp only[World.size_setCell]at hz1));have hB1:Below w.heap.size w w1:=by(repeat'(first|(with_reducible exact Below.refl _ _)|(with_reducible assumption)|(with_reducible refine Below.alloc ?_ ?_ _)|(with_reducible refine Below.drew ?_)|(with_reducible refine below_drewN ?_ _)|(with_reducible refine Below.setCell ?_ ?_ _)|(with_reducible refine Below.trans ?_ (Below.mono (by assumption) ?_))|omega|(simp;omega)|(simp;done))));(have hq1_0:=fun o:Nat=>hb1.cell (p:=⟨w.heap.size,o,none⟩) (by first|omega|(simp;done)|(simp;omega)));(have hf1_0:=fun o:Nat=>hb1.frozen (p:=⟨w.heap.size,o,none⟩) (by first|omega|(simp;done)|(simp;omega)));(have hy1_0:w.heap.size<w1.heap.size:=by omega);(have hq1_1:=fun o:Nat=>hb1.cell (p:=⟨w.heap.size+1,o,none⟩) (by first|omega|(simp;done)|(simp;omega)));(have hf1_1:=fun o:Nat=>hb1.frozen (p:=⟨w.heap.size+1,o,none⟩) (by first|omega|(simp;done)|(simp;omega)));(have hy1_1:w.heap.size+1<w1.heap.size:=by omega);(have hq1_2:=fun o:Nat=>hb1.cell (p:=⟨w.heap.size+1+1,o,none⟩) (by first|omega|(simp;done)|(simp;omega)));(have hf1_2:=fun o:Nat=>hb1.frozen (p:=⟨w.heap.size+1+1,o,none⟩) (by first|omega|(simp;done)|(simp;omega)));(have hy1_2:w.heap.size+1+1<w1.heap.size:=by omega);(have hq1_3:=fun o:Nat=>hb1.cell (p:=⟨w.heap.size+1+1+1,o,none⟩) (by first|omega|(simp;done)|(simp;omega)));(have hf1_3:=fun o:Nat=>hb1.frozen (p:=⟨w.heap.size+1+1+1,o,none⟩) (by first|omega|(simp;done)|(simp;omega)));(have hy1_3:w.heap.size+1+1+1<w1.heap.size:=by omega);clear hb1)
 go_quiet (fail)
 go_wp2
 refine bodyPost_ret (v:= .tuple #[.agg #[.int .i64 0,.int .i64 (bad+1),.bool true],.nilIface]) ?_ rfl ⟨rfl,by(repeat'(first|(with_reducible exact Below.refl _ _)|(with_reducible assumption)|(with_reducible refine Below.alloc ?_ ?_ _)|(with_reducible refine Below.drew ?_)|(with_reducible refine below_drewN ?_ _)|(with_reducible refine Below.setCell ?_ ?_ _)|(with_reducible refine Below.trans ?_ (Below.mono (by assumption) ?_))|omega|(simp;omega)|(simp;done)))⟩
 simp[results,Tryz.results76,go_sem,hq1_3]
set_option maxHeartbeats 400000 in
theorem vj (travel rate slack confirm is bad x:Int) (w:World) (h:zj travel rate slack confirm is bad false=0) (hc:¬bad+1=confirm):
  Calls Tryz.prog 76 #[.agg #[.int .i64 travel,.int .i64 rate,.int .i64 slack,.int .i64 confirm],.agg #[.int .i64 is,.int .i64 bad,.bool false],.agg #[.bool false,.int .i64 x]] w fun e w'=>
  e= .returned (.tuple #[.agg #[.int .i64 is,.int .i64 (bad+1),.bool false],qp 0])/\Below w.heap.size w w':=by
 have hr2:(zj travel rate slack confirm is bad false !=0)=false:=by rw[h];rfl
 obtain⟨⟨a1,a2,a3,a4,a5,a6,a7,a8⟩,b1,b2,b3,b4,_,b6⟩:=zU h
 clear h b6
 have hcb:(bad+1==confirm)=false:=by simpa using hc
 clear hc
 go_enter Tryz.func76,Tryz.ntmps76
 go_wp2_with (go_at_call 48;((with_reducible refine(qZ _ _ _ _ _ _ _ _).mono ?_);rintro e w1 ⟨rfl,hb1⟩;have hz1:=hb1.size;(repeat(first|simp only[World.size_alloc]at hz1|simp only[World.size_drew]at hz1|simp only[World.size_setCell]at hz1));have hB1:Below w.heap.size w w1:=by(repeat'(first|(with_reducible exact Below.refl _ _)|(with_reducible assumption)|(with_reducible refine Below.alloc ?_ ?_ _)|(with_reducible refine Below.drew ?_)|(with_reducible refine below_drewN ?_ _)|(with_reducible refine Below.setCell ?_ ?_ _)|(with_reducible refine Below.trans ?_ (Below.mono (by assumption) ?_))|omega|(simp;omega)|(simp;done))));(have hq1_0:=fun o:Nat=>hb1.cell (p:=⟨w.heap.size,o,none⟩) (by first|omega|(simp;done)|(simp;omega)));(have hf1_0:=fun o:Nat=>hb1.frozen (p:=⟨w.heap.size,o,none⟩) (by first|omega|(simp;done)|(simp;omega)));(have hy1_0:w.heap.size<w1.heap.size:=by omega);(have hq1_1:=fun o:Nat=>hb1.cell (p:=⟨w.heap.size+1,o,none⟩) (by first|omega|(simp;done)|(simp;omega)));(have hf1_1:=fun o:Nat=>hb1.frozen (p:=⟨w.heap.size+1,o,none⟩) (by first|omega|(simp;done)|(simp;omega)));(have hy1_1:w.heap.size+1<w1.heap.size:=by omega);(have hq1_2:=fun o:Nat=>hb1.cell (p:=⟨w.heap.size+1+1,o,none⟩) (by first|omega|(simp;done)|(simp;omega)));(have hf1_2:=fun o:Nat=>hb1.frozen (p:=⟨w.heap.size+1+1,o,none⟩) (by first|omega|(simp;done)|(simp;omega)));(have hy1_2:w.heap.size+1+1<w1.heap.size:=by omega);(have hq1_3:=fun o:Nat=>hb1.cell (p:=⟨w.heap.size+1+1+1,o,none⟩) (by first|omega|(simp;done)|(simp;omega)));(have hf1_3:=fun o:Nat=>hb1.frozen (p:=⟨w.heap.size+1+1+1,o,none⟩) (by first|omega|(simp;done)|(simp;omega)));(have hy1_3:w.heap.size+1+1+1<w1.heap.size:=by omega);clear hb1)
 go_quiet (fail)
 go_wp2
 refine bodyPost_ret (v:= .tuple #[.agg #[.int .i64 is,.int .i64 (bad+1),.bool false],.nilIface]) ?_ rfl ⟨rfl,by(repeat'(first|(with_reducible exact Below.refl _ _)|(with_reducible assumption)|(with_reducible refine Below.alloc ?_ ?_ _)|(with_reducible refine Below.drew ?_)|(with_reducible refine below_drewN ?_ _)|(with_reducible refine Below.setCell ?_ ?_ _)|(with_reducible refine Below.trans ?_ (Below.mono (by assumption) ?_))|omega|(simp;omega)|(simp;done)))⟩
 simp[results,Tryz.results76,go_sem,hq1_3]
set_option maxHeartbeats 400000 in
theorem YL (travel rate slack confirm is bad x:Int) (w:World) (h:zj travel rate slack confirm is bad false=0) (hx:is-slack<=x) (hx2:x<=is+slack):
  Calls Tryz.prog 76 #[.agg #[.int .i64 travel,.int .i64 rate,.int .i64 slack,.int .i64 confirm],.agg #[.int .i64 is,.int .i64 bad,.bool false],.agg #[.bool true,.int .i64 x]] w fun e w'=>
  e= .returned (.tuple #[.agg #[.int .i64 is,.int .i64 bad,.bool false],qp 0])/\Below w.heap.size w w':=by
 have hr2:(zj travel rate slack confirm is bad false !=0)=false:=by rw[h];rfl
 obtain⟨⟨a1,a2,a3,a4,a5,a6,a7,a8⟩,b1,b2,b3,b4,_,b6⟩:=zU h
 clear h b6
 go_enter Tryz.func76,Tryz.ntmps76
 go_wp2_with (go_at_call 48;((with_reducible refine(qZ _ _ _ _ _ _ _ _).mono ?_);rintro e w1 ⟨rfl,hb1⟩;have hz1:=hb1.size;(repeat(first|simp only[World.size_alloc]at hz1|simp only[World.size_drew]at hz1|simp only[World.size_setCell]at hz1));have hB1:Below w.heap.size w w1:=by(repeat'(first|(with_reducible exact Below.refl _ _)|(with_reducible assumption)|(with_reducible refine Below.alloc ?_ ?_ _)|(with_reducible refine Below.drew ?_)|(with_reducible refine below_drewN ?_ _)|(with_reducible refine Below.setCell ?_ ?_ _)|(with_reducible refine Below.trans ?_ (Below.mono (by assumption) ?_))|omega|(simp;omega)|(simp;done))));(have hq1_0:=fun o:Nat=>hb1.cell (p:=⟨w.heap.size,o,none⟩) (by first|omega|(simp;done)|(simp;omega)));(have hf1_0:=fun o:Nat=>hb1.frozen (p:=⟨w.heap.size,o,none⟩) (by first|omega|(simp;done)|(simp;omega)));(have hy1_0:w.heap.size<w1.heap.size:=by omega);(have hq1_1:=fun o:Nat=>hb1.cell (p:=⟨w.heap.size+1,o,none⟩) (by first|omega|(simp;done)|(simp;omega)));(have hf1_1:=fun o:Nat=>hb1.frozen (p:=⟨w.heap.size+1,o,none⟩) (by first|omega|(simp;done)|(simp;omega)));(have hy1_1:w.heap.size+1<w1.heap.size:=by omega);(have hq1_2:=fun o:Nat=>hb1.cell (p:=⟨w.heap.size+1+1,o,none⟩) (by first|omega|(simp;done)|(simp;omega)));(have hf1_2:=fun o:Nat=>hb1.frozen (p:=⟨w.heap.size+1+1,o,none⟩) (by first|omega|(simp;done)|(simp;omega)));(have hy1_2:w.heap.size+1+1<w1.heap.size:=by omega);(have hq1_3:=fun o:Nat=>hb1.cell (p:=⟨w.heap.size+1+1+1,o,none⟩) (by first|omega|(simp;done)|(simp;omega)));(have hf1_3:=fun o:Nat=>hb1.frozen (p:=⟨w.heap.size+1+1+1,o,none⟩) (by first|omega|(simp;done)|(simp;omega)));(have hy1_3:w.heap.size+1+1+1<w1.heap.size:=by omega);clear hb1)
 have e1:IntKind.i64.wrap (is-slack)=is-slack:=IntWalk.i64_in _ (by omega)
 have e2:IntKind.i64.wrap (is+slack)=is+slack:=IntWalk.i64_in _ (by omega)
 have hs1:w1.cell? ⟨w.heap.size+1,0,none⟩=some (.int .i64 is):=by go_simp
 have hs2:w1.cell? ⟨w.heap.size+1,2,none⟩=some (.bool false):=by go_simp
 have hs3:w1.cell? ⟨w.heap.size,2,none⟩=some (.int .i64 slack):=by go_simp
 have hs4:w1.cell? ⟨w.heap.size+1+1,0,none⟩=some (.bool true):=by go_simp
 have hs5:w1.cell? ⟨w.heap.size+1+1,1,none⟩=some (.int .i64 x):=by go_simp
 have hcl:zm x (-2000000) 2000000=x:=Xc _ _ _ (by omega) (by omega)
 go_region_held3 (fun w'=>w'.cell? ⟨w.heap.size+1,0,none⟩=some (.int .i64 is)/\w'.cell? ⟨w.heap.size+1,2,none⟩=some (.bool false)/\w'.cell? ⟨w.heap.size,2,none⟩=some (.int .i64 slack)/\w'.cell? ⟨w.heap.size+1+1,0,none⟩=some (.bool true)/\w'.cell? ⟨w.heap.size+1+1,1,none⟩=some (.int .i64 x)) (first|(refine⟨?_,?_,?_,?_,?_⟩<;>(repeat'(first|(with_reducible assumption)|(with_reducible refine zn ?_)|(with_reducible refine zt ?_)|(with_reducible refine zw ?_)|(with_reducible refine zS ?_ ?_)|(with_reducible refine za (by assumption) ?_ ?_)|omega|(simp;done)|(simp;omega)))<;>done)|go_keep)
  (first|(go_at_call 80;refine(kL _ _ _ _).mono ?_;rintro e w' ⟨rfl,rfl⟩)|(go_at_call 111;refine(K9 _ _ _ _).mono ?_;rintro e w' ⟨rfl,rfl⟩))
 go_wp2
 refine bodyPost_ret (v:= .tuple #[.agg #[.int .i64 is,.int .i64 bad,.bool false],.nilIface]) ?_ rfl ⟨rfl,by(repeat'(first|(with_reducible exact Below.refl _ _)|(with_reducible assumption)|(with_reducible refine Below.alloc ?_ ?_ _)|(with_reducible refine Below.drew ?_)|(with_reducible refine below_drewN ?_ _)|(with_reducible refine Below.setCell ?_ ?_ _)|(with_reducible refine Below.trans ?_ (Below.mono (by assumption) ?_))|omega|(simp;omega)|(simp;done)))⟩
 simp[results,Tryz.results76,go_sem,hq1_3,hy1_3]
set_option maxHeartbeats 400000 in
theorem m7 (travel rate slack confirm is bad x:Int) (w:World) (h:zj travel rate slack confirm is bad false=0) (hx:x<is-slack\/is+slack<x) (hc:bad+1=confirm):
  Calls Tryz.prog 76 #[.agg #[.int .i64 travel,.int .i64 rate,.int .i64 slack,.int .i64 confirm],.agg #[.int .i64 is,.int .i64 bad,.bool false],.agg #[.bool true,.int .i64 x]] w fun e w'=>
  e= .returned (.tuple #[.agg #[.int .i64 0,.int .i64 (bad+1),.bool true],qp 0])/\Below w.heap.size w w':=by
 have hr2:(zj travel rate slack confirm is bad false !=0)=false:=by rw[h];rfl
 obtain⟨⟨a1,a2,a3,a4,a5,a6,a7,a8⟩,b1,b2,b3,b4,_,b6⟩:=zU h
 clear h b6
 have hcb:(bad+1==confirm)=true:=by simpa using hc
 clear hc
 have hd:(decide (is-slack<=zm x (-2000000) 2000000)&&decide (zm x (-2000000) 2000000<=is+slack))=false:=by
  have hx':zm x (-2000000) 2000000<is-slack\/is+slack<zm x (-2000000) 2000000:=by
   unfold zm
   repeat' split
   all_goals omega
  rcases hx' with hx|hx
  ·rw[decide_eq_false (by omega:¬is-slack<=zm x (-2000000) 2000000)];rfl
  ·rw[decide_eq_false (by omega:¬zm x (-2000000) 2000000<=is+slack),Bool.and_false]
 clear hx
 go_enter Tryz.func76,Tryz.ntmps76
 go_wp2_with (go_at_call 48;((with_reducible refine(qZ _ _ _ _ _ _ _ _).mono ?_);rintro e w1 ⟨rfl,hb1⟩;have hz1:=hb1.size;(repeat(first|simp only[World.size_alloc]at hz1|simp only[World.size_drew]at hz1|simp only[World.size_setCell]at hz1));have hB1:Below w.heap.size w w1:=by(repeat'(first|(with_reducible exact Below.refl _ _)|(with_reducible assumption)|(with_reducible refine Below.alloc ?_ ?_ _)|(with_reducible refine Below.drew ?_)|(with_reducible refine below_drewN ?_ _)|(with_reducible refine Below.setCell ?_ ?_ _)|(with_reducible refine Below.trans ?_ (Below.mono (by assumption) ?_))|omega|(simp;omega)|(simp;done))));(have hq1_0:=fun o:Nat=>hb1.cell (p:=⟨w.heap.size,o,none⟩) (by first|omega|(simp;done)|(simp;omega)));(have hf1_0:=fun o:Nat=>hb1.frozen (p:=⟨w.heap.size,o,none⟩) (by first|omega|(simp;done)|(simp;omega)));(have hy1_0:w.heap.size<w1.heap.size:=by omega);(have hq1_1:=fun o:Nat=>hb1.cell (p:=⟨w.heap.size+1,o,none⟩) (by first|omega|(simp;done)|(simp;omega)));(have hf1_1:=fun o:Nat=>hb1.frozen (p:=⟨w.heap.size+1,o,none⟩) (by first|omega|(simp;done)|(simp;omega)));(have hy1_1:w.heap.size+1<w1.heap.size:=by omega);(have hq1_2:=fun o:Nat=>hb1.cell (p:=⟨w.heap.size+1+1,o,none⟩) (by first|omega|(simp;done)|(simp;omega)));(have hf1_2:=fun o:Nat=>hb1.frozen (p:=⟨w.heap.size+1+1,o,none⟩) (by first|omega|(simp;done)|(simp;omega)));(have hy1_2:w.heap.size+1+1<w1.heap.size:=by omega);(have hq1_3:=fun o:Nat=>hb1.cell (p:=⟨w.heap.size+1+1+1,o,none⟩) (by first|omega|(simp;done)|(simp;omega)));(have hf1_3:=fun o:Nat=>hb1.frozen (p:=⟨w.heap.size+1+1+1,o,none⟩) (by first|omega|(simp;done)|(simp;omega)));(have hy1_3:w.heap.size+1+1+1<w1.heap.size:=by omega);clear hb1)
 have e1:IntKind.i64.wrap (is-slack)=is-slack:=IntWalk.i64_in _ (by omega)
 have e2:IntKind.i64.wrap (is+slack)=is+slack:=IntWalk.i64_in _ (by omega)
 have hs1:w1.cell? ⟨w.heap.size+1,0,none⟩=some (.int .i64 is):=by go_simp
 have hs2:w1.cell? ⟨w.heap.size+1,2,none⟩=some (.bool false):=by go_simp
 have hs3:w1.cell? ⟨w.heap.size,2,none⟩=some (.int .i64 slack):=by go_simp
 have hs4:w1.cell? ⟨w.heap.size+1+1,0,none⟩=some (.bool true):=by go_simp
 have hs5:w1.cell? ⟨w.heap.size+1+1,1,none⟩=some (.int .i64 x):=by go_simp
 go_region_held3 (fun w'=>w'.cell? ⟨w.heap.size+1,0,none⟩=some (.int .i64 is)/\w'.cell? ⟨w.heap.size+1,2,none⟩=some (.bool false)/\w'.cell? ⟨w.heap.size,2,none⟩=some (.int .i64 slack)/\w'.cell? ⟨w.heap.size+1+1,0,none⟩=some (.bool true)/\w'.cell? ⟨w.heap.size+1+1,1,none⟩=some (.int .i64 x)) (first|(refine⟨?_,?_,?_,?_,?_⟩<;>(repeat'(first|(with_reducible assumption)|(with_reducible refine zn ?_)|(with_reducible refine zt ?_)|(with_reducible refine zw ?_)|(with_reducible refine zS ?_ ?_)|(with_reducible refine za (by assumption) ?_ ?_)|omega|(simp;done)|(simp;omega)))<;>done)|go_keep)
  (first|(go_at_call 80;refine(kL _ _ _ _).mono ?_;rintro e w' ⟨rfl,rfl⟩)|(go_at_call 111;refine(K9 _ _ _ _).mono ?_;rintro e w' ⟨rfl,rfl⟩))
 go_wp2
 refine bodyPost_ret (v:= .tuple #[.agg #[.int .i64 0,.int .i64 (bad+1),.bool true],.nilIface]) ?_ rfl ⟨rfl,by(repeat'(first|(with_reducible exact Below.refl _ _)|(with_reducible assumption)|(with_reducible refine Below.alloc ?_ ?_ _)|(with_reducible refine Below.drew ?_)|(with_reducible refine below_drewN ?_ _)|(with_reducible refine Below.setCell ?_ ?_ _)|(with_reducible refine Below.trans ?_ (Below.mono (by assumption) ?_))|omega|(simp;omega)|(simp;done)))⟩
 simp[results,Tryz.results76,go_sem,hq1_3,hy1_3]
set_option maxHeartbeats 400000 in
theorem m8 (travel rate slack confirm is bad x:Int) (w:World) (h:zj travel rate slack confirm is bad false=0) (hx:x<is-slack\/is+slack<x) (hc:¬bad+1=confirm):
  Calls Tryz.prog 76 #[.agg #[.int .i64 travel,.int .i64 rate,.int .i64 slack,.int .i64 confirm],.agg #[.int .i64 is,.int .i64 bad,.bool false],.agg #[.bool true,.int .i64 x]] w fun e w'=>
  e= .returned (.tuple #[.agg #[.int .i64 is,.int .i64 (bad+1),.bool false],qp 0])/\Below w.heap.size w w':=by
 have hr2:(zj travel rate slack confirm is bad false !=0)=false:=by rw[h];rfl
 obtain⟨⟨a1,a2,a3,a4,a5,a6,a7,a8⟩,b1,b2,b3,b4,_,b6⟩:=zU h
 clear h b6
 have hcb:(bad+1==confirm)=false:=by simpa using hc
 clear hc
 have hd:(decide (is-slack<=zm x (-2000000) 2000000)&&decide (zm x (-2000000) 2000000<=is+slack))=false:=by
  have hx':zm x (-2000000) 2000000<is-slack\/is+slack<zm x (-2000000) 2000000:=by
   unfold zm
   repeat' split
   all_goals omega
  rcases hx' with hx|hx
  ·rw[decide_eq_false (by omega:¬is-slack<=zm x (-2000000) 2000000)];rfl
  ·rw[decide_eq_false (by omega:¬zm x (-2000000) 2000000<=is+slack),Bool.and_false]
 clear hx
 go_enter Tryz.func76,Tryz.ntmps76
 go_wp2_with (go_at_call 48;((with_reducible refine(qZ _ _ _ _ _ _ _ _).mono ?_);rintro e w1 ⟨rfl,hb1⟩;have hz1:=hb1.size;(repeat(first|simp only[World.size_alloc]at hz1|simp only[World.size_drew]at hz1|simp only[World.size_setCell]at hz1));have hB1:Below w.heap.size w w1:=by(repeat'(first|(with_reducible exact Below.refl _ _)|(with_reducible assumption)|(with_reducible refine Below.alloc ?_ ?_ _)|(with_reducible refine Below.drew ?_)|(with_reducible refine below_drewN ?_ _)|(with_reducible refine Below.setCell ?_ ?_ _)|(with_reducible refine Below.trans ?_ (Below.mono (by assumption) ?_))|omega|(simp;omega)|(simp;done))));(have hq1_0:=fun o:Nat=>hb1.cell (p:=⟨w.heap.size,o,none⟩) (by first|omega|(simp;done)|(simp;omega)));(have hf1_0:=fun o:Nat=>hb1.frozen (p:=⟨w.heap.size,o,none⟩) (by first|omega|(simp;done)|(simp;omega)));(have hy1_0:w.heap.size<w1.heap.size:=by omega);(have hq1_1:=fun o:Nat=>hb1.cell (p:=⟨w.heap.size+1,o,none⟩) (by first|omega|(simp;done)|(simp;omega)));(have hf1_1:=fun o:Nat=>hb1.frozen (p:=⟨w.heap.size+1,o,none⟩) (by first|omega|(simp;done)|(simp;omega)));(have hy1_1:w.heap.size+1<w1.heap.size:=by omega);(have hq1_2:=fun o:Nat=>hb1.cell (p:=⟨w.heap.size+1+1,o,none⟩) (by first|omega|(simp;done)|(simp;omega)));(have hf1_2:=fun o:Nat=>hb1.frozen (p:=⟨w.heap.size+1+1,o,none⟩) (by first|omega|(simp;done)|(simp;omega)));(have hy1_2:w.heap.size+1+1<w1.heap.size:=by omega);(have hq1_3:=fun o:Nat=>hb1.cell (p:=⟨w.heap.size+1+1+1,o,none⟩) (by first|omega|(simp;done)|(simp;omega)));(have hf1_3:=fun o:Nat=>hb1.frozen (p:=⟨w.heap.size+1+1+1,o,none⟩) (by first|omega|(simp;done)|(simp;omega)));(have hy1_3:w.heap.size+1+1+1<w1.heap.size:=by omega);clear hb1)
 have e1:IntKind.i64.wrap (is-slack)=is-slack:=IntWalk.i64_in _ (by omega)
 have e2:IntKind.i64.wrap (is+slack)=is+slack:=IntWalk.i64_in _ (by omega)
 have hs1:w1.cell? ⟨w.heap.size+1,0,none⟩=some (.int .i64 is):=by go_simp
 have hs2:w1.cell? ⟨w.heap.size+1,2,none⟩=some (.bool false):=by go_simp
 have hs3:w1.cell? ⟨w.heap.size,2,none⟩=some (.int .i64 slack):=by go_simp
 have hs4:w1.cell? ⟨w.heap.size+1+1,0,none⟩=some (.bool true):=by go_simp
 have hs5:w1.cell? ⟨w.heap.size+1+1,1,none⟩=some (.int .i64 x):=by go_simp
 go_region_held3 (fun w'=>w'.cell? ⟨w.heap.size+1,0,none⟩=some (.int .i64 is)/\w'.cell? ⟨w.heap.size+1,2,none⟩=some (.bool false)/\w'.cell? ⟨w.heap.size,2,none⟩=some (.int .i64 slack)/\w'.cell? ⟨w.heap.size+1+1,0,none⟩=some (.bool true)/\w'.cell? ⟨w.heap.size+1+1,1,none⟩=some (.int .i64 x)) (first|(refine⟨?_,?_,?_,?_,?_⟩<;>(repeat'(first|(with_reducible assumption)|(with_reducible refine zn ?_)|(with_reducible refine zt ?_)|(with_reducible refine zw ?_)|(with_reducible refine zS ?_ ?_)|(with_reducible refine za (by assumption) ?_ ?_)|omega|(simp;done)|(simp;omega)))<;>done)|go_keep)
  (first|(go_at_call 80;refine(kL _ _ _ _).mono ?_;rintro e w' ⟨rfl,rfl⟩)|(go_at_call 111;refine(K9 _ _ _ _).mono ?_;rintro e w' ⟨rfl,rfl⟩))
 go_wp2
 refine bodyPost_ret (v:= .tuple #[.agg #[.int .i64 is,.int .i64 (bad+1),.bool false],.nilIface]) ?_ rfl ⟨rfl,by(repeat'(first|(with_reducible exact Below.refl _ _)|(with_reducible assumption)|(with_reducible refine Below.alloc ?_ ?_ _)|(with_reducible refine Below.drew ?_)|(with_reducible refine below_drewN ?_ _)|(with_reducible refine Below.setCell ?_ ?_ _)|(with_reducible refine Below.trans ?_ (Below.mono (by assumption) ?_))|omega|(simp;omega)|(simp;done)))⟩
 simp[results,Tryz.results76,go_sem,hq1_3,hy1_3]
end Go.Proofs.YtoakpnoajmngmaaGreatDoor
namespace Go.Proofs.YtoakpnoajmngmaaGreatDoor
open Go.RowKit
set_option maxHeartbeats 400000 in
theorem QV (travel rate slack confirm is bad:Int) (out:Bool) (w:World) (h1:gD travel rate slack confirm):
  Calls Tryz.prog 24 #[.agg #[.int .i64 travel,.int .i64 rate,.int .i64 slack,.int .i64 confirm],.agg #[.int .i64 is,.int .i64 bad,.bool out]] w fun e w'=>
  e= .returned (.int .i64 (zj travel rate slack confirm is bad out))/\Below w.heap.size w w':=by
 have hr:=jQ h1
 obtain⟨a1,a2,a3,a4,a5,a6,a7,a8⟩:=h1
 have hE:Hid (zj travel rate slack confirm is bad out=if -travel<=is/\is<=travel/\0<=bad/\bad<=confirm/\(out=true->is=0)/\(out=false->bad≠confirm)then 0 else 3):=by
  unfold Hid zj
  rw[if_pos hr]
 generalize zj travel rate slack confirm is bad out=r at*
 have hp0:jV [0,0]=0:=rfl
 have hp3:jV [0,3]=3:=rfl
 have hpx:∀b:Bool,jV [0,mV b 3]=mV b 3:=fun b=>by cases b<;>rfl
 cases out
 all_goals
  go_enter Tryz.func24,Tryz.ntmps24
  go_wp2_with (first|(go_at_call 20;((with_reducible refine(qH _ _ _ _).mono ?_);rintro e w' ⟨rfl,rfl⟩))|(go_at_call 8;((with_reducible refine(yg _ _ _).mono ?_);rintro e w' ⟨rfl,rfl⟩))|(go_at_call 59;((with_reducible refine(gq _ _ _ _ _).mono ?_);rintro e w' ⟨rfl,rfl⟩))|(go_at_call 7;((with_reducible refine(GV _ _ [_,_] 2 _ rfl (by omega) (zfN _ _ _ _ _ _ (by simp))).mono ?_);rintro e w' ⟨rfl,rfl⟩)))
  all_goals go_ret
  all_goals refine⟨zD ?_,by(repeat'(first|(with_reducible exact Below.refl _ _)|(with_reducible assumption)|(with_reducible refine Below.alloc ?_ ?_ _)|(with_reducible refine Below.drew ?_)|(with_reducible refine below_drewN ?_ _)|(with_reducible refine Below.setCell ?_ ?_ _)|(with_reducible refine Below.trans ?_ (Below.mono (by assumption) ?_))|omega|(simp;omega)|(simp;done)))⟩
  all_goals rw[hE.out]
  all_goals(try unfold mV)
  all_goals(repeat' split)
  all_goals first|omega|(simp at*;omega)
set_option maxHeartbeats 400000 in
theorem QW (travel rate slack confirm is bad:Int) (out:Bool) (w:World) (h1:¬gD travel rate slack confirm):
  Calls Tryz.prog 24 #[.agg #[.int .i64 travel,.int .i64 rate,.int .i64 slack,.int .i64 confirm],.agg #[.int .i64 is,.int .i64 bad,.bool out]] w fun e w'=>
  e= .returned (.int .i64 (zj travel rate slack confirm is bad out))/\Below w.heap.size w w':=by
 have hE:Hid (zj travel rate slack confirm is bad out=1):=Xe h1
 have hr:=gE h1
 clear h1
 generalize zj travel rate slack confirm is bad out=r at*
 have hp1:∀x,jV [1,x]=1:=fun x=>rfl
 cases out
 all_goals
  go_enter Tryz.func24,Tryz.ntmps24
  go_wp2_with (first|(go_at_call 20;((with_reducible refine(qH _ _ _ _).mono ?_);rintro e w' ⟨rfl,rfl⟩))|(go_at_call 8;((with_reducible refine(yg _ _ _).mono ?_);rintro e w' ⟨rfl,rfl⟩))|(go_at_call 59;((with_reducible refine(gq _ _ _ _ _).mono ?_);rintro e w' ⟨rfl,rfl⟩))|(go_at_call 7;((with_reducible refine(GV _ _ [_,_] 2 _ rfl (by omega) (zfN _ _ _ _ _ _ (by simp))).mono ?_);rintro e w' ⟨rfl,rfl⟩)))
  all_goals go_ret
  all_goals exact⟨zD hE.out.symm,by(repeat'(first|(with_reducible exact Below.refl _ _)|(with_reducible assumption)|(with_reducible refine Below.alloc ?_ ?_ _)|(with_reducible refine Below.drew ?_)|(with_reducible refine below_drewN ?_ _)|(with_reducible refine Below.setCell ?_ ?_ _)|(with_reducible refine Below.trans ?_ (Below.mono (by assumption) ?_))|omega|(simp;omega)|(simp;done)))⟩
theorem YM (travel rate slack confirm is bad:Int) (out:Bool) (w:World):
  Calls Tryz.prog 24 #[.agg #[.int .i64 travel,.int .i64 rate,.int .i64 slack,.int .i64 confirm],.agg #[.int .i64 is,.int .i64 bad,.bool out]] w fun e w'=>
  e= .returned (.int .i64 (zj travel rate slack confirm is bad out))/\Below w.heap.size w w':=by
 by_cases h1:gD travel rate slack confirm
 ·exact QV _ _ _ _ _ _ _ w h1
 ·exact QW _ _ _ _ _ _ _ w h1
end Go.Proofs.YtoakpnoajmngmaaGreatDoor
namespace Go.Proofs.YtoakpnoajmngmaaGreatDoor
open Go.RowKit
set_option maxHeartbeats 400000 in
theorem vQ (travel rate slack confirm is bad x:Int) (w:World) (h:zj travel rate slack confirm is bad true=0):
  Calls Tryz.prog 30 #[.agg #[.int .i64 travel,.int .i64 rate,.int .i64 slack,.int .i64 confirm],.agg #[.int .i64 is,.int .i64 bad,.bool true],.agg #[.bool true,.int .i64 x]] w fun e w'=>
  e= .returned (.agg #[.int .i64 is,.int .i64 bad,.bool true])/\(((w.alloc (.cells #[.int .i64 travel,.int .i64 rate,.int .i64 slack,.int .i64 confirm] 77)).alloc (.cells #[.int .i64 is,.int .i64 bad,.bool true] 80)).alloc (.cells #[.bool true,.int .i64 x] 96)).alloc (.cells #[.int .i64 is,.int .i64 bad,.bool true] 80)=w':=by
 obtain⟨⟨a1,a2,a3,a4,a5,a6,a7,a8⟩,b1,b2,b3,b4,b5,b6⟩:=zU h
 clear h b5 b6
 go_enter Tryz.func30,Tryz.ntmps30
 go_wp2_with (first|(go_at_call 20;((with_reducible refine(qc _ _ _ _ (by omega) (by omega)).mono ?_);rintro e w' ⟨rfl,rfl⟩))|(go_at_call 20;((with_reducible refine(qC _ _ _ _ (by omega)).mono ?_);rintro e w' ⟨rfl,rfl⟩)))
 refine bodyPost_ret (v:= .agg #[.int .i64 is,.int .i64 bad,.bool true]) ?_ rfl ⟨rfl,rfl⟩
 simp[results,Tryz.results30,go_sem]
set_option maxHeartbeats 400000 in
theorem vR (travel rate slack confirm is bad x:Int) (w:World) (h:zj travel rate slack confirm is bad true=0):
  Calls Tryz.prog 30 #[.agg #[.int .i64 travel,.int .i64 rate,.int .i64 slack,.int .i64 confirm],.agg #[.int .i64 is,.int .i64 bad,.bool true],.agg #[.bool false,.int .i64 x]] w fun e w'=>
  e= .returned (.agg #[.int .i64 is,.int .i64 bad,.bool true])/\(((w.alloc (.cells #[.int .i64 travel,.int .i64 rate,.int .i64 slack,.int .i64 confirm] 77)).alloc (.cells #[.int .i64 is,.int .i64 bad,.bool true] 80)).alloc (.cells #[.bool false,.int .i64 x] 96)).alloc (.cells #[.int .i64 is,.int .i64 bad,.bool true] 80)=w':=by
 obtain⟨⟨a1,a2,a3,a4,a5,a6,a7,a8⟩,b1,b2,b3,b4,b5,b6⟩:=zU h
 clear h b5 b6
 go_enter Tryz.func30,Tryz.ntmps30
 go_wp2_with (first|(go_at_call 20;((with_reducible refine(qc _ _ _ _ (by omega) (by omega)).mono ?_);rintro e w' ⟨rfl,rfl⟩))|(go_at_call 20;((with_reducible refine(qC _ _ _ _ (by omega)).mono ?_);rintro e w' ⟨rfl,rfl⟩)))
 refine bodyPost_ret (v:= .agg #[.int .i64 is,.int .i64 bad,.bool true]) ?_ rfl ⟨rfl,rfl⟩
 simp[results,Tryz.results30,go_sem]
set_option maxHeartbeats 400000 in
theorem xK (travel rate slack confirm is bad x:Int) (w:World) (h:zj travel rate slack confirm is bad false=0) (hc:bad+1=confirm):
  Calls Tryz.prog 30 #[.agg #[.int .i64 travel,.int .i64 rate,.int .i64 slack,.int .i64 confirm],.agg #[.int .i64 is,.int .i64 bad,.bool false],.agg #[.bool false,.int .i64 x]] w fun e w'=>
  e= .returned (.agg #[.int .i64 0,.int .i64 (bad+1),.bool true])/\(((w.alloc (.cells #[.int .i64 travel,.int .i64 rate,.int .i64 slack,.int .i64 confirm] 77)).alloc (.cells #[.int .i64 0,.int .i64 (bad+1),.bool true] 80)).alloc (.cells #[.bool false,.int .i64 x] 96)).alloc (.cells #[.int .i64 0,.int .i64 (bad+1),.bool true] 80)=w':=by
 obtain⟨⟨a1,a2,a3,a4,a5,a6,a7,a8⟩,b1,b2,b3,b4,b5,b6⟩:=zU h
 clear h b5 b6
 have hcb:(bad+1==confirm)=true:=by simpa using hc
 clear hc
 go_enter Tryz.func30,Tryz.ntmps30
 go_wp2_with (first|(go_at_call 20;((with_reducible refine(qc _ _ _ _ (by omega) (by omega)).mono ?_);rintro e w' ⟨rfl,rfl⟩))|(go_at_call 20;((with_reducible refine(qC _ _ _ _ (by omega)).mono ?_);rintro e w' ⟨rfl,rfl⟩)))
 refine bodyPost_ret (v:= .agg #[.int .i64 0,.int .i64 (bad+1),.bool true]) ?_ rfl ⟨rfl,rfl⟩
 simp[results,Tryz.results30,go_sem]
set_option maxHeartbeats 400000 in
theorem vS (travel rate slack confirm is bad x:Int) (w:World) (h:zj travel rate slack confirm is bad false=0) (hx:x<is-slack\/is+slack<x) (hc:bad+1=confirm):
  Calls Tryz.prog 30 #[.agg #[.int .i64 travel,.int .i64 rate,.int .i64 slack,.int .i64 confirm],.agg #[.int .i64 is,.int .i64 bad,.bool false],.agg #[.bool true,.int .i64 x]] w fun e w'=>
  e= .returned (.agg #[.int .i64 0,.int .i64 (bad+1),.bool true])/\(((w.alloc (.cells #[.int .i64 travel,.int .i64 rate,.int .i64 slack,.int .i64 confirm] 77)).alloc (.cells #[.int .i64 0,.int .i64 (bad+1),.bool true] 80)).alloc (.cells #[.bool true,.int .i64 x] 96)).alloc (.cells #[.int .i64 0,.int .i64 (bad+1),.bool true] 80)=w':=by
 obtain⟨⟨a1,a2,a3,a4,a5,a6,a7,a8⟩,b1,b2,b3,b4,b5,b6⟩:=zU h
 clear h b5 b6
 have hcb:(bad+1==confirm)=true:=by simpa using hc
 clear hc
 go_enter Tryz.func30,Tryz.ntmps30
 go_wp2_with (first|(go_at_call 20;((with_reducible refine(qc _ _ _ _ (by omega) (by omega)).mono ?_);rintro e w' ⟨rfl,rfl⟩))|(go_at_call 20;((with_reducible refine(qC _ _ _ _ (by omega)).mono ?_);rintro e w' ⟨rfl,rfl⟩)))
 refine bodyPost_ret (v:= .agg #[.int .i64 0,.int .i64 (bad+1),.bool true]) ?_ rfl ⟨rfl,rfl⟩
 simp[results,Tryz.results30,go_sem]
set_option maxHeartbeats 400000 in
theorem xL (travel rate slack confirm is bad x:Int) (w:World) (h:zj travel rate slack confirm is bad false=0) (hc:¬bad+1=confirm):
  Calls Tryz.prog 30 #[.agg #[.int .i64 travel,.int .i64 rate,.int .i64 slack,.int .i64 confirm],.agg #[.int .i64 is,.int .i64 bad,.bool false],.agg #[.bool false,.int .i64 x]] w fun e w'=>
  e= .returned (.agg #[.int .i64 is,.int .i64 (bad+1),.bool false])/\(((w.alloc (.cells #[.int .i64 travel,.int .i64 rate,.int .i64 slack,.int .i64 confirm] 77)).alloc (.cells #[.int .i64 is,.int .i64 (bad+1),.bool false] 80)).alloc (.cells #[.bool false,.int .i64 x] 96)).alloc (.cells #[.int .i64 is,.int .i64 (bad+1),.bool false] 80)=w':=by
 obtain⟨⟨a1,a2,a3,a4,a5,a6,a7,a8⟩,b1,b2,b3,b4,b5,b6⟩:=zU h
 clear h b5 b6
 have hcb:(bad+1==confirm)=false:=by simpa using hc
 clear hc
 go_enter Tryz.func30,Tryz.ntmps30
 go_wp2_with (first|(go_at_call 20;((with_reducible refine(qc _ _ _ _ (by omega) (by omega)).mono ?_);rintro e w' ⟨rfl,rfl⟩))|(go_at_call 20;((with_reducible refine(qC _ _ _ _ (by omega)).mono ?_);rintro e w' ⟨rfl,rfl⟩)))
 refine bodyPost_ret (v:= .agg #[.int .i64 is,.int .i64 (bad+1),.bool false]) ?_ rfl ⟨rfl,rfl⟩
 simp[results,Tryz.results30,go_sem]
set_option maxHeartbeats 400000 in
theorem vT (travel rate slack confirm is bad x:Int) (w:World) (h:zj travel rate slack confirm is bad false=0) (hx:x<is-slack\/is+slack<x) (hc:¬bad+1=confirm):
  Calls Tryz.prog 30 #[.agg #[.int .i64 travel,.int .i64 rate,.int .i64 slack,.int .i64 confirm],.agg #[.int .i64 is,.int .i64 bad,.bool false],.agg #[.bool true,.int .i64 x]] w fun e w'=>
  e= .returned (.agg #[.int .i64 is,.int .i64 (bad+1),.bool false])/\(((w.alloc (.cells #[.int .i64 travel,.int .i64 rate,.int .i64 slack,.int .i64 confirm] 77)).alloc (.cells #[.int .i64 is,.int .i64 (bad+1),.bool false] 80)).alloc (.cells #[.bool true,.int .i64 x] 96)).alloc (.cells #[.int .i64 is,.int .i64 (bad+1),.bool false] 80)=w':=by
 obtain⟨⟨a1,a2,a3,a4,a5,a6,a7,a8⟩,b1,b2,b3,b4,b5,b6⟩:=zU h
 clear h b5 b6
 have hcb:(bad+1==confirm)=false:=by simpa using hc
 clear hc
 go_enter Tryz.func30,Tryz.ntmps30
 go_wp2_with (first|(go_at_call 20;((with_reducible refine(qc _ _ _ _ (by omega) (by omega)).mono ?_);rintro e w' ⟨rfl,rfl⟩))|(go_at_call 20;((with_reducible refine(qC _ _ _ _ (by omega)).mono ?_);rintro e w' ⟨rfl,rfl⟩)))
 refine bodyPost_ret (v:= .agg #[.int .i64 is,.int .i64 (bad+1),.bool false]) ?_ rfl ⟨rfl,rfl⟩
 simp[results,Tryz.results30,go_sem]
set_option maxHeartbeats 400000 in
theorem QX (travel rate slack confirm is bad x:Int) (w:World) (h:zj travel rate slack confirm is bad false=0) (hx:is-slack<=x) (hx2:x<=is+slack):
  Calls Tryz.prog 30 #[.agg #[.int .i64 travel,.int .i64 rate,.int .i64 slack,.int .i64 confirm],.agg #[.int .i64 is,.int .i64 bad,.bool false],.agg #[.bool true,.int .i64 x]] w fun e w'=>
  e= .returned (.agg #[.int .i64 is,.int .i64 bad,.bool false])/\(((w.alloc (.cells #[.int .i64 travel,.int .i64 rate,.int .i64 slack,.int .i64 confirm] 77)).alloc (.cells #[.int .i64 is,.int .i64 bad,.bool false] 80)).alloc (.cells #[.bool true,.int .i64 x] 96)).alloc (.cells #[.int .i64 is,.int .i64 bad,.bool false] 80)=w':=by
 obtain⟨⟨a1,a2,a3,a4,a5,a6,a7,a8⟩,b1,b2,b3,b4,b5,b6⟩:=zU h
 clear h b5 b6
 go_enter Tryz.func30,Tryz.ntmps30
 go_wp2_with (first|(go_at_call 20;((with_reducible refine(qc _ _ _ _ (by omega) (by omega)).mono ?_);rintro e w' ⟨rfl,rfl⟩))|(go_at_call 20;((with_reducible refine(qC _ _ _ _ (by omega)).mono ?_);rintro e w' ⟨rfl,rfl⟩)))
 refine bodyPost_ret (v:= .agg #[.int .i64 is,.int .i64 bad,.bool false]) ?_ rfl ⟨rfl,rfl⟩
 simp[results,Tryz.results30,go_sem]
end Go.Proofs.YtoakpnoajmngmaaGreatDoor
namespace Go.Proofs.YtoakpnoajmngmaaGreatDoor
open Go.RowKit
def zbp (slack confirm is bad:Int) (out there:Bool) (x:Int):Int × Int × Bool:=
 if out=true\/(there=true/\is-slack<=x/\x<=is+slack)then(is,bad,out)else if bad+1=confirm then(0,bad+1,true)else(is,bad+1,false)
def yb (travel rate is:Int) (out:Bool):Int × Int:=if out=true then(0,0)else(Xf travel rate is,Xg travel rate is)
theorem YN (travel rate slack confirm is bad x:Int) (out there:Bool) (a b:Int) (c:Bool) (w:World) (h:zj travel rate slack confirm is bad out=0) (hq:Hid (zbp slack confirm is bad out there x=(a,b,c))):
  Calls Tryz.prog 76 #[.agg #[.int .i64 travel,.int .i64 rate,.int .i64 slack,.int .i64 confirm],.agg #[.int .i64 is,.int .i64 bad,.bool out],.agg #[.bool there,.int .i64 x]] w fun e w'=>
  e= .returned (.tuple #[.agg #[.int .i64 a,.int .i64 b,.bool c],qp 0])/\Below w.heap.size w w':=by
 have hq:=hq.out
 unfold zbp at hq
 cases out
 ·cases there
  ·rw[if_neg (by simp)]at hq
   by_cases hc:bad+1=confirm
   ·rw[if_pos hc]at hq;cases hq;exact vh _ _ _ _ _ _ _ w h hc
   ·rw[if_neg hc]at hq;cases hq;exact vj _ _ _ _ _ _ _ w h hc
  ·by_cases hx:is-slack<=x/\x<=is+slack
   ·rw[if_pos (.inr ⟨rfl,hx⟩)]at hq;cases hq;exact YL _ _ _ _ _ _ _ w h hx.1 hx.2
   ·rw[if_neg (by simp;omega)]at hq
    by_cases hc:bad+1=confirm
    ·rw[if_pos hc]at hq;cases hq;exact m7 _ _ _ _ _ _ _ w h (by omega) hc
    ·rw[if_neg hc]at hq;cases hq;exact m8 _ _ _ _ _ _ _ w h (by omega) hc
 ·rw[if_pos (.inl rfl)]at hq;cases hq;exact Kr _ _ _ _ _ _ _ _ w h
theorem QY (travel rate slack confirm is bad x:Int) (out there:Bool) (a b:Int) (c:Bool) (w:World) (h:zj travel rate slack confirm is bad out=0) (hq:Hid (zbp slack confirm is bad out there x=(a,b,c))):
  Calls Tryz.prog 30 #[.agg #[.int .i64 travel,.int .i64 rate,.int .i64 slack,.int .i64 confirm],.agg #[.int .i64 is,.int .i64 bad,.bool out],.agg #[.bool there,.int .i64 x]] w fun e w'=>
  e= .returned (.agg #[.int .i64 a,.int .i64 b,.bool c])/\(((w.alloc (.cells #[.int .i64 travel,.int .i64 rate,.int .i64 slack,.int .i64 confirm] 77)).alloc (.cells #[.int .i64 a,.int .i64 b,.bool c] 80)).alloc (.cells #[.bool there,.int .i64 x] 96)).alloc (.cells #[.int .i64 a,.int .i64 b,.bool c] 80)=w':=by
 have hq:=hq.out
 unfold zbp at hq
 cases out
 ·cases there
  ·rw[if_neg (by simp)]at hq
   by_cases hc:bad+1=confirm
   ·rw[if_pos hc]at hq;cases hq;exact xK _ _ _ _ _ _ _ w h hc
   ·rw[if_neg hc]at hq;cases hq;exact xL _ _ _ _ _ _ _ w h hc
  ·by_cases hx:is-slack<=x/\x<=is+slack
   ·rw[if_pos (.inr ⟨rfl,hx⟩)]at hq;cases hq;exact QX _ _ _ _ _ _ _ w h hx.1 hx.2
   ·rw[if_neg (by simp;omega)]at hq
    by_cases hc:bad+1=confirm
    ·rw[if_pos hc]at hq;cases hq;exact vS _ _ _ _ _ _ _ w h (by omega) hc
    ·rw[if_neg hc]at hq;cases hq;exact vT _ _ _ _ _ _ _ w h (by omega) hc
 ·rw[if_pos (.inl rfl)]at hq;cases hq
  cases there
  ·exact vR _ _ _ _ _ _ _ w h
  ·exact vQ _ _ _ _ _ _ _ w h
theorem VO (travel rate slack confirm is bad tz m:Int) (out:Bool) (w:World) (h:zj travel rate slack confirm is bad out=0) (hq:Hid (zm tz (yb travel rate is out).1 (yb travel rate is out).2=m)):
  Calls Tryz.prog 86 #[.agg #[.int .i64 travel,.int .i64 rate,.int .i64 slack,.int .i64 confirm],.agg #[.int .i64 is,.int .i64 bad,.bool out],.int .i64 tz] w fun e w'=>
  e= .returned (.tuple #[.agg #[.int .i64 m,.int .i64 bad,.bool out],qp 0])/\Below w.heap.size w w':=by
 have hq:=hq.out
 cases out
 ·have e:yb travel rate is false=(Xf travel rate is,Xg travel rate is):=if_neg (by simp)
  rw[e]at hq
  subst hq
  exact VN _ _ _ _ _ _ _ w h
 ·have e:yb travel rate is true=(0,0):=if_pos rfl
  rw[e]at hq
  rw[GK]at hq
  subst hq
  exact YK _ _ _ _ _ _ _ w h
end Go.Proofs.YtoakpnoajmngmaaGreatDoor
namespace Go.Proofs.YtoakpnoajmngmaaGreatDoor
open Go.RowKit
set_option maxHeartbeats 1000000 in
theorem Ks (lo hi noise push most rate:Int) (w:World) (h:¬j7 lo hi noise push most rate):
  Calls Tryz.prog 124 #[.agg #[.int .i64 lo,.int .i64 hi,.int .i64 noise,.int .i64 push,.int .i64 most,.int .i64 rate]] w fun e w'=>e= .returned (qp 1)/\Below w.heap.size w w':=by
 have H:=Lib.hid h
 clear h
 go_enter Tryz.func124,Tryz.ntmps124
 go_wp2_with (go_at_call 111;((with_reducible refine(K9 _ _ _ _).mono ?_);rintro e w' ⟨rfl,rfl⟩))
 all_goals first|(exfalso;apply H.out;unfold j7;omega)|skip
 all_goals go_ret
 all_goals exact⟨rfl,by go_grown⟩
theorem vk (lo hi noise push most rate:Int) (w:World):
  Calls Tryz.prog 124 #[.agg #[.int .i64 lo,.int .i64 hi,.int .i64 noise,.int .i64 push,.int .i64 most,.int .i64 rate]] w fun e w'=>e= .returned (qp (zs lo hi noise push most rate))/\Below w.heap.size w w':=by
 unfold zs
 by_cases h:j7 lo hi noise push most rate
 ·rw[if_neg (by unfold j7 at h;exact not_not_intro h)]
  by_cases h1:most<push
  ·rw[if_pos (.inl h1)];exact Z5 _ _ _ _ _ _ w h h1
  ·by_cases h2:rate<push
   ·rw[if_pos (.inr (.inl h2))];exact Z6 _ _ _ _ _ _ w h (by omega) h2
   ·have:=JB lo hi noise push most rate w h (by omega) (by omega) _ rfl
    by_cases h3:hi-lo<2*(noise+zE push rate most)
    ·rw[if_pos (.inr (.inr h3))];rwa[if_pos h3]at this
    ·rw[if_neg (by omega)];rwa[if_neg h3]at this
 ·rw[if_pos (by unfold j7 at h;exact h)]
  exact Ks _ _ _ _ _ _ w h
end Go.Proofs.YtoakpnoajmngmaaGreatDoor
namespace Go.Proofs.YtoakpnoajmngmaaGreatDoor
open Go.RowKit
set_option maxHeartbeats 400000 in
theorem QZ (lo hi noise push most rate:Int) (w:World) (h:¬j7 lo hi noise push most rate):
  Calls Tryz.prog 96 #[.agg #[.int .i64 lo,.int .i64 hi,.int .i64 noise,.int .i64 push,.int .i64 most,.int .i64 rate]] w fun e w'=>e= .returned (.int .i64 1)/\Below w.heap.size w w':=by
 have H:=Lib.hid h
 clear h
 go_enter Tryz.func96,Tryz.ntmps96
 go_wp2_with (go_at_call 20;((with_reducible refine(qH _ _ _ _).mono ?_);rintro e w' ⟨rfl,rfl⟩))
 all_goals first|(exfalso;apply H.out;unfold j7;first|omega|(simp at*;omega))|skip
 all_goals go_ret
 all_goals exact⟨rfl,by go_grown⟩
theorem YO (lo hi noise push most rate:Int) (w:World):
  Calls Tryz.prog 96 #[.agg #[.int .i64 lo,.int .i64 hi,.int .i64 noise,.int .i64 push,.int .i64 most,.int .i64 rate]] w fun e w'=>e= .returned (.int .i64 (zs lo hi noise push most rate))/\Below w.heap.size w w':=by
 unfold zs
 by_cases h:j7 lo hi noise push most rate
 ·rw[if_neg (by unfold j7 at h;exact not_not_intro h)]
  by_cases h1:most<push
  ·rw[if_pos (.inl h1)];exact Z7 _ _ _ _ _ _ w h h1
  ·by_cases h2:rate<push
   ·rw[if_pos (.inr (.inl h2))];exact mZ _ _ _ _ _ _ w h (by omega) h2
   ·have:=Z8 lo hi noise push most rate w h (by omega) (by omega) _ rfl
    by_cases h3:hi-lo<2*(noise+zE push rate most)
    ·rw[if_pos (.inr (.inr h3))];rwa[if_pos h3]at this
    ·rw[if_neg (by omega)];rwa[if_neg h3]at this
 ·rw[if_pos (by unfold j7 at h;exact h)]
  exact QZ _ _ _ _ _ _ w h
theorem xx {lo hi noise push most rate:Int} (h:zs lo hi noise push most rate=0):j7 lo hi noise push most rate/\push<=most/\push<=rate/\2*(noise+zE push rate most)<=hi-lo:=by
 unfold zs at h
 split at h
 ·omega
 ·rename_i h1
  split at h
  ·omega
  ·rename_i h2
   exact⟨by unfold j7;exact Decidable.not_not.1 h1,by omega,by omega,by omega⟩
theorem gr (lo hi noise push most rate:Int):0<=zs lo hi noise push most rate/\zs lo hi noise push most rate<=3:=by
 unfold zs
 repeat' split
 all_goals omega
def jC (most s:Int):Int:=if s< -most\/most<s then 1 else 0
theorem VP (lo hi noise push most rate s:Int) (w:World):
  Calls Tryz.prog 148 #[.agg #[.int .i64 lo,.int .i64 hi,.int .i64 noise,.int .i64 push,.int .i64 most,.int .i64 rate],.int .i64 s] w fun e w'=>
   e= .returned (qp (por (zs lo hi noise push most rate) (jC most s)))/\Below w.heap.size w w':=by
 by_cases h:zs lo hi noise push most rate=0
 ·have hf:=xx h
  obtain⟨⟨a1,a2,a3,a4,a5,a6,a7,a8,a9,a10,a11,a12⟩,b1,b2,b3⟩:=hf
  rw[h,vV]
  have hz:(zs lo hi noise push most rate==0)=true:=by simpa using h
  have hp:Hid (jC most s=if s< -most\/most<s then 1 else 0):=rfl
  have H:=Lib.hid h
  clear h b3
  generalize jC most s=k at*
  go_enter Tryz.func148,Tryz.ntmps148
  go_wp2_with (go_at_call 124;((with_reducible refine(vk _ _ _ _ _ _ _).mono ?_);rintro e w' ⟨rfl,hb⟩;obtain⟨hcb,hfb⟩:=W6 hb))
  all_goals go_ret
  all_goals refine⟨?_,((Below.refl _ _).alloc (Nat.le_refl _) _).trans (hb.mono (by simp))⟩
  ·rw[hp.out,if_pos (.inl (by assumption))];rfl
  ·rw[hp.out,if_pos (.inr (by assumption))];rfl
  ·rw[hp.out,if_neg (by omega)]
   show Ending.returned (qp _)=_
   rw[H.out]
 ·have hz:(zs lo hi noise push most rate==0)=false:=by simpa using h
  rw[mL h]
  have H:=Lib.hid h
  clear h
  go_enter Tryz.func148,Tryz.ntmps148
  go_wp2_with (go_at_call 124;((with_reducible refine(vk _ _ _ _ _ _ _).mono ?_);rintro e w' ⟨rfl,hb⟩;obtain⟨hcb,hfb⟩:=W6 hb))
  go_ret
  exact⟨rfl,((Below.refl _ _).alloc (Nat.le_refl _) _).trans (hb.mono (by simp))⟩
end Go.Proofs.YtoakpnoajmngmaaGreatDoor
namespace Go.Proofs.YtoakpnoajmngmaaGreatDoor
open Go.RowKit
theorem zd6 (a b c:Value) (w:World):(Instr.index 30 (.agg #[a,b,c]) (.int .i64 0)).run Tryz.prog w= .ok a w:=by kernel_rfl
theorem zd7 (a b c:Value) (w:World):(Instr.index 30 (.agg #[a,b,c]) (.int .i64 1)).run Tryz.prog w= .ok b w:=by kernel_rfl
theorem zd8 (a b c:Value) (w:World):(Instr.index 30 (.agg #[a,b,c]) (.int .i64 2)).run Tryz.prog w= .ok c w:=by kernel_rfl
theorem zaK (a b c:Value) (w:World):(Instr.index 31 (.agg #[a,b,c]) (.int .i64 0)).run Tryz.prog w= .ok a w:=by kernel_rfl
theorem zaL (a b c:Value) (w:World):(Instr.index 31 (.agg #[a,b,c]) (.int .i64 1)).run Tryz.prog w= .ok b w:=by kernel_rfl
theorem zaM (a b c:Value) (w:World):(Instr.index 31 (.agg #[a,b,c]) (.int .i64 2)).run Tryz.prog w= .ok c w:=by kernel_rfl
theorem zd9 (a b c d e f:Value) (w:World):(Instr.index 144 (.agg #[a,b,c,d,e,f]) (.int .i64 0)).run Tryz.prog w= .ok (.agg #[a,b]) w:=by kernel_rfl
theorem zea (a b c d e f:Value) (w:World):(Instr.index 144 (.agg #[a,b,c,d,e,f]) (.int .i64 1)).run Tryz.prog w= .ok (.agg #[c,d]) w:=by kernel_rfl
theorem zeb (a b c d e f:Value) (w:World):(Instr.index 144 (.agg #[a,b,c,d,e,f]) (.int .i64 2)).run Tryz.prog w= .ok (.agg #[e,f]) w:=by kernel_rfl
theorem zig (b:Nat->Int) (k:Nat) (hk:k<3) (w:World):(Instr.index 30 (.agg #[.int .i64 (b 0),.int .i64 (b 1),.int .i64 (b 2)]) (.int .i64 k)).run Tryz.prog w= .ok (.int .i64 (b k)) w:=by
 match k,hk with
 |0,_=>exact zd6 _ _ _ _
 |1,_=>exact zd7 _ _ _ _
 |2,_=>exact zd8 _ _ _ _
theorem zec (b:Nat->Bool) (k:Nat) (hk:k<3) (w:World):(Instr.index 31 (.agg #[.bool (b 0),.bool (b 1),.bool (b 2)]) (.int .i64 k)).run Tryz.prog w= .ok (.bool (b k)) w:=by
 match k,hk with
 |0,_=>exact zaK _ _ _ _
 |1,_=>exact zaL _ _ _ _
 |2,_=>exact zaM _ _ _ _
theorem Q4 (t:Nat->Bool) (x:Nat->Int) (k:Nat) (hk:k<3) (w:World):(Instr.index 144 (.agg #[.bool (t 0),.int .i64 (x 0),.bool (t 1),.int .i64 (x 1),.bool (t 2),.int .i64 (x 2)]) (.int .i64 k)).run Tryz.prog w= .ok (.agg #[.bool (t k),.int .i64 (x k)]) w:=by
 match k,hk with
 |0,_=>exact zd9 _ _ _ _ _ _ _
 |1,_=>exact zea _ _ _ _ _ _ _
 |2,_=>exact zeb _ _ _ _ _ _ _
set_option maxHeartbeats 400000 in
theorem kW (limit confirm:Int) (w:World):Calls Tryz.prog 90 #[.agg #[.int .i64 limit,.int .i64 confirm]] w fun e w'=>e= .returned (qp (qr limit confirm))/\w.alloc (.cells #[.int .i64 limit,.int .i64 confirm] 88)=w':=by
 have hE:Hid (qr limit confirm=if 0<=limit/\limit<=1000000/\1<=confirm/\confirm<=10 then 0 else 1):=rfl
 generalize qr limit confirm=r at*
 go_enter Tryz.func90,Tryz.ntmps90
 go_wp2
 all_goals go_ret
 all_goals refine⟨?_,rfl⟩
 all_goals rw[hE.out]
 all_goals first|(rw[if_neg (by omega)];rfl)|(rw[if_pos (by omega)];rfl)
set_option maxHeartbeats 400000 in
theorem m9 (limit confirm:Int) (w:World):Calls Tryz.prog 57 #[.agg #[.int .i64 limit,.int .i64 confirm]] w fun e w'=>e= .returned (.int .i64 (qr limit confirm))/\w.alloc (.cells #[.int .i64 limit,.int .i64 confirm] 88)=w':=by
 have hE:Hid (qr limit confirm=if 0<=limit/\limit<=1000000/\1<=confirm/\confirm<=10 then 0 else 1):=rfl
 generalize qr limit confirm=r at*
 go_enter Tryz.func57,Tryz.ntmps57
 go_wp2_with (first|(go_at_call 20;((with_reducible refine(qH _ _ _ _).mono ?_);rintro e w' ⟨rfl,rfl⟩))|(go_at_call 8;((with_reducible refine(yg _ _ _).mono ?_);rintro e w' ⟨rfl,rfl⟩)))
 all_goals go_ret
 all_goals refine⟨zD ?_,rfl⟩
 all_goals rw[hE.out]
 all_goals(try unfold mV)
 all_goals(try simp only[Bool.or_eq_true,Bool.not_eq_true',decide_eq_false_iff_not]at*)
 all_goals(repeat' split)
 all_goals omega
theorem zaN {b:Nat->Int} {last:Int} {k:Nat} (hk:k<3) (h:¬(0<=b k/\b k<=10)):jy (b 0) (b 1) (b 2) last=3:=by
 unfold jy
 refine if_neg fun hc=>h ?_
 match k,hk with
 |0,_=>exact⟨hc.1,hc.2.1⟩
 |1,_=>exact⟨hc.2.2.1,hc.2.2.2.1⟩
 |2,_=>exact⟨hc.2.2.2.2.1,hc.2.2.2.2.2.1⟩
theorem VQ {b:Nat->Int} {last:Int} (h:∀k,k<3->0<=b k/\b k<=10) (h1: -1000000<=last) (h2:last<=1000000):jy (b 0) (b 1) (b 2) last=0:=by
 unfold jy
 have a0:=h 0 (by omega)
 have a1:=h 1 (by omega)
 have a2:=h 2 (by omega)
 exact if_pos ⟨a0.1,a0.2,a1.1,a1.2,a2.1,a2.2,h1,h2⟩
theorem VR {b:Nat->Int} {last:Int} (h:¬(-1000000<=last/\last<=1000000)):jy (b 0) (b 1) (b 2) last=3:=by
 unfold jy
 exact if_neg fun hc=>h ⟨hc.2.2.2.2.2.2.1,hc.2.2.2.2.2.2.2⟩
theorem yF (x:Int) (w:World) (h1: -1000000<=x) (h2:x<=1000000):Calls Tryz.prog 91 #[.int .i64 x] w fun e w'=>e= .returned (.bool false)/\w=w':=by
 go_enter Tryz.func91,Tryz.ntmps91
 go_wp2
 all_goals first|(exfalso;omega)|(go_ret;exact⟨jY (by simp;try omega),rfl⟩)
theorem yG (x:Int) (w:World) (h:x< -1000000\/1000000<x):Calls Tryz.prog 91 #[.int .i64 x] w fun e w'=>e= .returned (.bool true)/\w=w':=by
 rcases h with h|h
 all_goals
  go_enter Tryz.func91,Tryz.ntmps91
  go_wp2
  all_goals first|(exfalso;omega)|(go_ret;exact⟨jY (by simp;try omega),rfl⟩)
set_option maxHeartbeats 400000 in
theorem Kt (b:Nat->Int) (o:Nat->Bool) (last:Int) (w:World):Calls Tryz.prog 46 #[.agg #[.int .i64 (b 0),.int .i64 (b 1),.int .i64 (b 2),.bool (o 0),.bool (o 1),.bool (o 2),.int .i64 last]] w fun e w'=>e= .returned (qp (jy (b 0) (b 1) (b 2) last))/\Below w.heap.size w w':=by
 go_enter Tryz.func46,Tryz.ntmps46
 go_wp2_with fail
 refine zT (fun ω=>Below w.heap.size w ω/\w.heap.size<ω.heap.size/\(∀o,ω.frozen? ⟨w.heap.size,o,none⟩=false)/\ω.cell? ⟨w.heap.size,0,none⟩=some (.int .i64 ((b 0)))/\ω.cell? ⟨w.heap.size,1,none⟩=some (.int .i64 ((b 1)))/\ω.cell? ⟨w.heap.size,2,none⟩=some (.int .i64 ((b 2)))/\ω.cell? ⟨w.heap.size,3,none⟩=some (.bool ((o 0)))/\ω.cell? ⟨w.heap.size,4,none⟩=some (.bool ((o 1)))/\ω.cell? ⟨w.heap.size,5,none⟩=some (.bool ((o 2)))/\ω.cell? ⟨w.heap.size,6,none⟩=some (.int .i64 last)) ⟨gW,gS,gF,gC,gC,gC,gC,gC,gC,gC⟩ ?_
 rintro w1 ⟨hB1,hy1_0,hf1_0,hc1_0_0,hc1_0_1,hc1_0_2,hc1_0_3,hc1_0_4,hc1_0_5,hc1_0_6⟩
 go_loopw [7] (fun i wr=>∃k:Nat,k<=3/\i= .int .i64 k/\Hid (∀j,j<k->0<=b j/\b j<=10)/\w1=wr) (fun i _=>3-(intOf i).toNat)
 case atStart=>exact⟨0,by omega,rfl,fun j h=>absurd h (Nat.not_lt_zero j),rfl⟩
 case round=>
  obtain⟨k,hk,rfl,hb,rfl⟩:=hrel
  by_cases hlt:k<3
  ·have ix:=zig b k hlt
   by_cases hr:0<=b k/\b k<=10
   ·obtain⟨r1,r2⟩:=hr
    go_wp2_with fail
    go_roundw
    case rel=>exact⟨k+1,by omega,by go_num,fun j hj=>(by rcases Nat.lt_succ_iff_lt_or_eq.1 hj with h|rfl<;>first|exact hb.out j h|exact⟨r1,r2⟩),trivial⟩
    case measure=>simp[intOf];omega
   ·have hp:=Lib.hid (zaN (last:=last) hlt hr)
    rcases(by omega:b k<0\/10<b k)with hr|hr
    all_goals
     go_wp2_with fail
     go_ret
     exact⟨by rw[hp.out];rfl,hB1⟩
  ·obtain rfl:k=3:=by omega
   by_cases hl: -1000000<=last/\last<=1000000
   ·have hp:=Lib.hid (VQ hb.out hl.1 hl.2)
    obtain⟨l1,l2⟩:=hl
    go_wp2_with (go_at_call 91;((with_reducible refine(yF _ _ (by omega) (by omega)).mono ?_);rintro e w' ⟨rfl,rfl⟩))
    go_ret
    exact⟨by rw[hp.out];rfl,hB1⟩
   ·have hp:=Lib.hid (VR (b:=b) hl)
    have hl2:=Lib.hid (show last< -1000000\/1000000<last by omega)
    clear hl
    go_wp2_with (go_at_call 91;((with_reducible refine(yG _ _ hl2.out).mono ?_);rintro e w' ⟨rfl,rfl⟩))
    go_ret
    exact⟨by rw[hp.out];rfl,hB1⟩
def qI (b:Nat->Int) (last:Int):Nat->Bool
 |0=>decide (-1000000<=last)&&decide (last<=1000000)
 |k+1=>qI b last k&&(decide (0<=b k)&&decide (b k<=10))
theorem zed (b:Nat->Int) (last:Int):jy (b 0) (b 1) (b 2) last=mV (!qI b last 3) 3:=by
 unfold jy
 split
 ·rename_i h
  have e:qI b last 3=true:=by simp[qI];omega
  rw[e];rfl
 ·rename_i h
  have e:qI b last 3=false:=by
   rcases hb:qI b last 3 with _|_
   ·rfl
   ·simp[qI]at hb;omega
  rw[e];rfl
set_option maxHeartbeats 1000000 in
theorem VS (b:Nat->Int) (o:Nat->Bool) (last:Int) (w:World):Calls Tryz.prog 21 #[.agg #[.int .i64 (b 0),.int .i64 (b 1),.int .i64 (b 2),.bool (o 0),.bool (o 1),.bool (o 2),.int .i64 last]] w fun e w'=>e= .returned (.int .i64 (jy (b 0) (b 1) (b 2) last))/\Below w.heap.size w w':=by
 have hE:=Lib.hid (zed b last)
 go_enter Tryz.func21,Tryz.ntmps21
 go_wp2_with (first|(go_at_call 20;((with_reducible refine(qH _ _ _ _).mono ?_);rintro e w' ⟨rfl,rfl⟩)))
 refine zT (fun ω=>Below w.heap.size w ω/\w.heap.size<ω.heap.size/\(∀o,ω.frozen? ⟨w.heap.size,o,none⟩=false)/\ω.cell? ⟨w.heap.size,0,none⟩=some (.int .i64 ((b 0)))/\ω.cell? ⟨w.heap.size,1,none⟩=some (.int .i64 ((b 1)))/\ω.cell? ⟨w.heap.size,2,none⟩=some (.int .i64 ((b 2)))/\ω.cell? ⟨w.heap.size,3,none⟩=some (.bool ((o 0)))/\ω.cell? ⟨w.heap.size,4,none⟩=some (.bool ((o 1)))/\ω.cell? ⟨w.heap.size,5,none⟩=some (.bool ((o 2)))/\ω.cell? ⟨w.heap.size,6,none⟩=some (.int .i64 last)) ⟨gW,gS,gF,gC,gC,gC,gC,gC,gC,gC⟩ ?_
 rintro w1 ⟨hB1,hy1_0,hf1_0,hc1_0_0,hc1_0_1,hc1_0_2,hc1_0_3,hc1_0_4,hc1_0_5,hc1_0_6⟩
 go_loopw [3,4] (fun f i wr=>∃(k:Nat) (g:Bool),k<=3/\i= .int .i64 k/\f= .bool g/\Hid (g=qI b last k)/\w1=wr) (fun _ i _=>3-(intOf i).toNat)
 case atStart=>exact⟨0,_,by omega,rfl,rfl,rfl,rfl⟩
 case round=>
  obtain⟨k,g,hk,rfl,rfl,hg,rfl⟩:=hrel
  by_cases hlt:k<3
  ·have hc:w1.cell? ⟨w.heap.size,k,none⟩=some (.int .i64 (b k)):=by
    match k,hlt with
    |0,_=>exact hc1_0_0
    |1,_=>exact hc1_0_1
    |2,_=>exact hc1_0_2
   cases g
   ·go_wp2_with (first|(go_at_call 20;((with_reducible refine(qH _ _ _ _).mono ?_);rintro e w' ⟨rfl,rfl⟩)))
    go_roundw
    case rel=>exact⟨k+1,false,by omega,by go_num,rfl,by unfold Hid qI;rw[<-hg.out];rfl,trivial⟩
    case measure=>simp[intOf];omega
   ·go_wp2_with (first|(go_at_call 20;((with_reducible refine(qH _ _ _ _).mono ?_);rintro e w' ⟨rfl,rfl⟩)))
    go_roundw
    case rel=>exact⟨k+1,_,by omega,by go_num,rfl,by unfold Hid qI;rw[<-hg.out];rfl,trivial⟩
    case measure=>simp[intOf];omega
  ·obtain rfl:k=3:=by omega
   cases g
   all_goals
    go_wp2_with (first|(go_at_call 8;((with_reducible refine(yg _ _ _).mono ?_);rintro e w' ⟨rfl,rfl⟩)))
    go_ret
    exact⟨zD (by rw[hE.out,<-hg.out];rfl),hB1⟩
def jG (o:Nat->Bool):Nat->Int
 |0=>0
 |k+1=>jG o k+WC (o k)
theorem mC (o:Nat->Bool) (k:Nat):0<=jG o k/\jG o k<=k:=by
 induction k with
 |zero=>exact⟨Int.le_refl _,Int.le_refl _⟩
 |succ k ih=>unfold jG WC;split<;>omega
def vU (o:Nat->Bool):Nat->Int
 |0=>3
 |k+1=>if o k=true then vU o k-1 else vU o k
theorem zee (o:Nat->Bool) (k:Nat):vU o k=3-(k:Int)+jG o k:=by
 induction k with
 |zero=>rfl
 |succ k ih=>unfold vU jG WC;split<;>omega
set_option maxHeartbeats 400000 in
theorem zef (b:Nat->Int) (o:Nat->Bool) (last:Int) (w:World):Calls Tryz.prog 75 #[.agg #[.int .i64 (b 0),.int .i64 (b 1),.int .i64 (b 2),.bool (o 0),.bool (o 1),.bool (o 2),.int .i64 last]] w fun e w'=>e= .returned (.int .i64 (jG o 3))/\Below w.heap.size w w':=by
 go_enter Tryz.func75,Tryz.ntmps75
 go_wp2_with fail
 refine zT (fun ω=>Below w.heap.size w ω/\w.heap.size<ω.heap.size/\(∀o,ω.frozen? ⟨w.heap.size,o,none⟩=false)/\ω.cell? ⟨w.heap.size,0,none⟩=some (.int .i64 ((b 0)))/\ω.cell? ⟨w.heap.size,1,none⟩=some (.int .i64 ((b 1)))/\ω.cell? ⟨w.heap.size,2,none⟩=some (.int .i64 ((b 2)))/\ω.cell? ⟨w.heap.size,3,none⟩=some (.bool ((o 0)))/\ω.cell? ⟨w.heap.size,4,none⟩=some (.bool ((o 1)))/\ω.cell? ⟨w.heap.size,5,none⟩=some (.bool ((o 2)))/\ω.cell? ⟨w.heap.size,6,none⟩=some (.int .i64 last)) ⟨gW,gS,gF,gC,gC,gC,gC,gC,gC,gC⟩ ?_
 rintro w1 ⟨hB1,hy1_0,hf1_0,hc1_0_0,hc1_0_1,hc1_0_2,hc1_0_3,hc1_0_4,hc1_0_5,hc1_0_6⟩
 go_loopw [3,8] (fun n i wr=>∃k:Nat,k<=3/\i= .int .i64 k/\n= .int .i64 (jG o k)/\w1=wr) (fun _ i _=>3-(intOf i).toNat)
 case atStart=>exact⟨0,by omega,rfl,rfl,rfl⟩
 case round=>
  obtain⟨k,hk,rfl,rfl,rfl⟩:=hrel
  have hb:=mC o k
  obtain⟨hb1,hb2⟩:=hb
  by_cases hlt:k<3
  ·have ix:=zec o k hlt
   by_cases hok:o k=true
   ·rw[hok]at ix
    have HN:Hid (jG o (k+1)=jG o k):=by unfold Hid;show _+WC _=_;rw[hok];exact Int.add_zero _
    clear hok
    go_wp2_with fail
    go_roundw
    case rel=>exact⟨k+1,by omega,by go_num,by rw[HN.out],trivial⟩
    case measure=>simp[intOf];omega
   ·have hok':o k=false:=by simpa using hok
    rw[hok']at ix
    have HN:Hid (jG o (k+1)=jG o k+1):=by unfold Hid;show _+WC _=_;rw[hok'];rfl
    clear hok hok'
    go_wp2_with fail
    go_roundw
    case rel=>exact⟨k+1,by omega,by go_num,by rw[HN.out],trivial⟩
    case measure=>simp[intOf];omega
  ·obtain rfl:k=3:=by omega
   go_wp2_with fail
   go_ret
   exact⟨rfl,hB1⟩
set_option maxHeartbeats 400000 in
theorem zih (b:Nat->Int) (o:Nat->Bool) (last:Int) (w:World):Calls Tryz.prog 29 #[.agg #[.int .i64 (b 0),.int .i64 (b 1),.int .i64 (b 2),.bool (o 0),.bool (o 1),.bool (o 2),.int .i64 last]] w fun e w'=>e= .returned (.int .i64 (jG o 3))/\Below w.heap.size w w':=by
 go_enter Tryz.func29,Tryz.ntmps29
 go_wp2_with fail
 refine zT (fun ω=>Below w.heap.size w ω/\w.heap.size<ω.heap.size/\(∀o,ω.frozen? ⟨w.heap.size,o,none⟩=false)/\ω.cell? ⟨w.heap.size,0,none⟩=some (.int .i64 ((b 0)))/\ω.cell? ⟨w.heap.size,1,none⟩=some (.int .i64 ((b 1)))/\ω.cell? ⟨w.heap.size,2,none⟩=some (.int .i64 ((b 2)))/\ω.cell? ⟨w.heap.size,3,none⟩=some (.bool ((o 0)))/\ω.cell? ⟨w.heap.size,4,none⟩=some (.bool ((o 1)))/\ω.cell? ⟨w.heap.size,5,none⟩=some (.bool ((o 2)))/\ω.cell? ⟨w.heap.size,6,none⟩=some (.int .i64 last)) ⟨gW,gS,gF,gC,gC,gC,gC,gC,gC,gC⟩ ?_
 rintro w1 ⟨hB1,hy1_0,hf1_0,hc1_0_0,hc1_0_1,hc1_0_2,hc1_0_3,hc1_0_4,hc1_0_5,hc1_0_6⟩
 go_loopw [3,4] (fun n i wr=>∃k:Nat,k<=3/\i= .int .i64 k/\n= .int .i64 (vU o k)/\w1=wr) (fun _ i _=>3-(intOf i).toNat)
 case atStart=>exact⟨0,by omega,rfl,rfl,rfl⟩
 case round=>
  obtain⟨k,hk,rfl,rfl,rfl⟩:=hrel
  have hb:=mC o k
  obtain⟨hb1,hb2⟩:=hb
  have hp:=zee o k
  have hb3:0<=vU o k:=by omega
  have hb4:vU o k<=3:=by omega
  have HP:=Lib.hid hp
  clear hp
  by_cases hlt:k<3
  ·have hc:w1.cell? ⟨w.heap.size,3+k,none⟩=some (.bool (o k)):=by
    match k,hlt with
    |0,_=>exact hc1_0_3
    |1,_=>exact hc1_0_4
    |2,_=>exact hc1_0_5
   by_cases hok:o k=true
   ·rw[hok]at hc
    have HN:Hid (vU o (k+1)=vU o k-1):=by unfold Hid;show(if _ then _ else _)=_;rw[if_pos hok]
    clear hok
    go_wp2_with fail
    go_roundw
    case rel=>exact⟨k+1,by omega,by go_num,by rw[HN.out],trivial⟩
    case measure=>simp[intOf];omega
   ·have hok':o k=false:=by simpa using hok
    rw[hok']at hc
    have HN:Hid (vU o (k+1)=vU o k):=by unfold Hid;show(if _ then _ else _)=_;rw[if_neg hok]
    clear hok hok'
    go_wp2_with fail
    go_roundw
    case rel=>exact⟨k+1,by omega,by go_num,by rw[HN.out],trivial⟩
    case measure=>simp[intOf];omega
  ·obtain rfl:k=3:=by omega
   have hz:Hid (vU o 3=jG o 3):=by unfold Hid;have:=HP.out;omega
   go_wp2_with fail
   go_ret
   exact⟨zD hz.out,hB1⟩
end Go.Proofs.YtoakpnoajmngmaaGreatDoor
