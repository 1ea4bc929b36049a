import Derived.Test.YtoakpnoajmngmaaGreatDoorFix
import Derived.Lib.Hide
set_option linter.unusedVariables false
set_option linter.unusedSimpArgs false
namespace Go.Proofs.YtoakpnoajmngmaaGreatDoor
open Go.RowKit
@[go_sem] theorem zeK (op:BinOp) (t:TypeId) (x:Operand) (c:Value) (k:Int):eqGuard op t x (.const c) (qp k) .nilIface=pure ():=by
  by_cases h:k=0
  ·subst h;exact eqGuard_nil_constR _ _ _ _
  ·rw[gI h];exact eqGuard_at_iface _ _ _ _ _ _ _
theorem Wk (k:Int) (w:World):(binOp .neq 51 (.iface 44 (.int .i64 k)) .nilIface).run Tryz.prog w= .ok (.bool true) w:=by kernel_rfl
theorem Wl (k:Int) (w:World):(binOp .eql 51 (.iface 44 (.int .i64 k)) .nilIface).run Tryz.prog w= .ok (.bool false) w:=by kernel_rfl
theorem G0 (w:World):(binOp .neq 51 .nilIface .nilIface).run Tryz.prog w= .ok (.bool false) w:=by kernel_rfl
theorem G3 (w:World):(binOp .eql 51 .nilIface .nilIface).run Tryz.prog w= .ok (.bool true) w:=by kernel_rfl
@[go_sem] theorem zm4 (k:Int) (w:World):(binOp .neq 51 (qp k) .nilIface).run Tryz.prog w= .ok (.bool (k !=0)) w:=by
  by_cases h:k=0
  ·subst h;exact G0 w
  ·have e:(k !=0)=true:=by simpa using h
   rw[gI h,e]
   exact Wk k w
@[go_sem] theorem zm5 (k:Int) (w:World):(binOp .eql 51 (qp k) .nilIface).run Tryz.prog w= .ok (.bool (k==0)) w:=by
  by_cases h:k=0
  ·subst h;exact G3 w
  ·have e:(k==0)=false:=by simpa using h
   rw[gI h,e]
   exact Wl k w
def mV (b:Bool) (j:Int):Int:=if b=true then j else 0
@[go_sem] theorem zix (j:Int):mV true j=j:=rfl
@[go_sem] theorem zfP (j:Int):mV false j=0:=rfl
theorem yg (b:Bool) (j:Int) (w:World):Calls Tryz.prog 8 #[.bool b,.int .i64 j] w fun e w'=>e= .returned (.int .i64 (mV b j))/\w=w':=by
 cases b
 all_goals
  go_enter Tryz.func8,Tryz.ntmps8
  go_wp2
  go_ret
  exact⟨rfl,rfl⟩
theorem qH (x lo hi:Int) (w:World):Calls Tryz.prog 20 #[.int .i64 x,.int .i64 lo,.int .i64 hi] w fun e w'=>e= .returned (.bool (decide (lo<=x)&&decide (x<=hi)))/\w=w':=by
 by_cases h:lo<=x
 ·go_enter Tryz.func20,Tryz.ntmps20
  go_wp2
  go_ret
  exact⟨jY (by simp[h]),rfl⟩
 ·go_enter Tryz.func20,Tryz.ntmps20
  go_wp2
  go_ret
  exact⟨jY (by rw[decide_eq_false (by omega:¬lo<=x)];rfl),rfl⟩
theorem qc (x lo hi:Int) (w:World) (h1:lo<=x) (h2:x<=hi):Calls Tryz.prog 20 #[.int .i64 x,.int .i64 lo,.int .i64 hi] w fun e w'=>e= .returned (.bool true)/\w=w':=by
 have:=qH x lo hi w
 rwa[decide_eq_true h1,decide_eq_true h2]at this
theorem qC (x lo hi:Int) (w:World) (h:¬(lo<=x/\x<=hi)):Calls Tryz.prog 20 #[.int .i64 x,.int .i64 lo,.int .i64 hi] w fun e w'=>e= .returned (.bool false)/\w=w':=by
 have:=qH x lo hi w
 rwa[show(decide (lo<=x)&&decide (x<=hi))=false by simp;omega]at this
theorem zfQ (x n:Int) (w:World) (hn:0<n) (hn2:n<=9223372036854775807):Calls Tryz.prog 18 #[.int .i64 x,.int .i64 n] w fun e w'=>e= .returned (.int .i64 (x%n))/\w=w':=by
 have h1:=Int.emod_nonneg x (b:=n) (by omega)
 by_cases h:0<=x
 ·go_enter Tryz.func18,Tryz.ntmps18
  go_wp2
  all_goals go_ret
  all_goals exact⟨zD rfl,rfl⟩
 ·rcases Xd x n hn (by omega)with⟨h3,h4,h5⟩|⟨h3,h4⟩
  ·have H4:=Lib.hid h4
   clear h4 h1
   go_enter Tryz.func18,Tryz.ntmps18
   go_wp2
   go_ret
   exact⟨zD H4.out.symm,rfl⟩
  ·have H4:=Lib.hid h4
   have h3':¬x.tmod n<0:=by omega
   have H3:=Lib.hid h3
   clear h4 h1 h3
   go_enter Tryz.func18,Tryz.ntmps18
   go_wp2
   go_ret
   exact⟨zD (H3.out.trans H4.out.symm),rfl⟩
end Go.Proofs.YtoakpnoajmngmaaGreatDoor
