import Derived.Test.YtoakpnoajmngmaaGreatDoorWgPl
import Derived.BigGuardPart
import Derived.Handy
set_option linter.unusedVariables false
set_option linter.unusedSimpArgs false
namespace Go.Proofs.YtoakpnoajmngmaaGreatDoor
open Go.RowKit
def j8 (ch so su:Int):Int:=if 0<=ch/\ch<=3/\1<=su/\su<=4/\0<=so/\so<=su then 0 else 1
def xV (ch so su:Int):Int:=if so=0 then 3 else if ch<2\/so+2<=su then 2 else if so<su then 1 else 0
theorem zbT (ch so su:Int) (w:World):Calls Tryz.prog 77 #[.agg #[.int .i64 ch,.int .i64 so,.int .i64 su]] w fun e w'=>
  e= .returned (qp (j8 ch so su))/\w.alloc (.cells #[.int .i64 ch,.int .i64 so,.int .i64 su] 93)=w':=by
 have hE:Hid (j8 ch so su=if 0<=ch/\ch<=3/\1<=su/\su<=4/\0<=so/\so<=su then 0 else 1):=rfl
 generalize j8 ch so su=r at*
 go_enter Tryz.func77,Tryz.ntmps77
 go_wp2
 all_goals go_ret
 all_goals refine⟨?_,rfl⟩
 all_goals rw[hE.out]
 all_goals first|(rw[if_neg (by omega)];rfl)|(rw[if_pos (by omega)];rfl)
theorem znN (ch so su:Int) (w:World) (h:j8 ch so su=0):Calls Tryz.prog 78 #[.agg #[.int .i64 ch,.int .i64 so,.int .i64 su]] w fun e w'=>
  e= .returned (.int .i64 (xV ch so su))/\w.alloc (.cells #[.int .i64 ch,.int .i64 so,.int .i64 su] 93)=w':=by
 have hb:0<=ch/\ch<=3/\1<=su/\su<=4/\0<=so/\so<=su:=by
  unfold j8 at h;split at h
  ·assumption
  ·omega
 obtain⟨b1,b2,b3,b4,b5,b6⟩:=hb
 have hE:Hid (xV ch so su=if so=0 then 3 else if ch<2\/so+2<=su then 2 else if so<su then 1 else 0):=rfl
 generalize xV ch so su=r at*
 clear h
 go_enter Tryz.func78,Tryz.ntmps78
 go_wp2
 all_goals go_ret
 all_goals refine⟨zD ?_,rfl⟩
 all_goals rw[hE.out]
 all_goals(try simp only[beq_iff_eq,beq_eq_false_iff_ne,ne_eq]at*)
 all_goals(repeat' split)
 all_goals omega
theorem zbU (ch so su:Int) (w:World) (h:j8 ch so su=0):Calls Tryz.prog 32 #[.agg #[.int .i64 ch,.int .i64 so,.int .i64 su]] w fun e w'=>
  e= .returned (.int .i64 (xV ch so su))/\w.alloc (.cells #[.int .i64 ch,.int .i64 so,.int .i64 su] 93)=w':=by
 have hb:0<=ch/\ch<=3/\1<=su/\su<=4/\0<=so/\so<=su:=by
  unfold j8 at h;split at h
  ·assumption
  ·omega
 obtain⟨b1,b2,b3,b4,b5,b6⟩:=hb
 have hE:Hid (xV ch so su=if so=0 then 3 else if ch<2\/so+2<=su then 2 else if so<su then 1 else 0):=rfl
 generalize xV ch so su=r at*
 clear h
 go_enter Tryz.func32,Tryz.ntmps32
 go_wp2
 all_goals go_ret
 all_goals refine⟨zD ?_,rfl⟩
 all_goals rw[hE.out]
 all_goals(try simp only[beq_iff_eq,beq_eq_false_iff_ne,ne_eq]at*)
 all_goals(repeat' split)
 all_goals omega
end Go.Proofs.YtoakpnoajmngmaaGreatDoor
namespace Go.Proofs.YtoakpnoajmngmaaGreatDoor
open Go.RowKit
def xC (w:World) (b off n:Nat) (ch so su:Nat->Int):Prop:=
 b<w.heap.size/\∀i,i<n->w.cell? ⟨b,off+i*3,none⟩=some (.int .i64 (ch i))/\w.cell? ⟨b,off+i*3+1,none⟩=some (.int .i64 (so i))/\w.cell? ⟨b,off+i*3+2,none⟩=some (.int .i64 (su i))
theorem xC.below {w w':World} {b off n:Nat} {ch so su:Nat->Int} (h:xC w b off n ch so su) (hb:Below w.heap.size w w'):xC w' b off n ch so su:=
 ⟨Nat.lt_of_lt_of_le h.1 hb.size,fun i hi=>⟨(hb.cell (p:=⟨b,_,none⟩) h.1).trans (h.2 i hi).1,(hb.cell (p:=⟨b,_,none⟩) h.1).trans (h.2 i hi).2.1,(hb.cell (p:=⟨b,_,none⟩) h.1).trans (h.2 i hi).2.2⟩⟩
end Go.Proofs.YtoakpnoajmngmaaGreatDoor
