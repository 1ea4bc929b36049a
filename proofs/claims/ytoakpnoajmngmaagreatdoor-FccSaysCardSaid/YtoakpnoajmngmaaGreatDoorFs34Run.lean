import Derived.Test.YtoakpnoajmngmaaGreatDoorLineA
import Derived.Test.YtoakpnoajmngmaaGreatDoorProg
set_option linter.unusedVariables false
set_option linter.unusedSimpArgs false
namespace Go.Proofs.YtoakpnoajmngmaaGreatDoor.Sx
def xi:Nat->Nat:=fsq [41,71,95,102,128,143,164,182,229]
theorem zjV:zu (qe (nn 3 4)) (Mg 3 4 xi):=by delta zu;kernel_rfl
theorem zjW:zu (qe (nn 3 4)) (Mh 3 4 xi):=by delta zu;kernel_rfl
theorem zjX:zu (qe (nn 3 4)) (Mi 3 4 xi):=by delta zu;kernel_rfl
theorem zjY:zu (qe (nn 3 4)) (Mj 3 4 xi):=by delta zu;kernel_rfl
theorem zjZ:zu (qe (nn 3 4)) (Mk 3 4 xi):=by delta zu;kernel_rfl
theorem zj0:zu (qe (nn 3 4)) (Ml 3 4 xi):=by delta zu;kernel_rfl
theorem zj1:zu (qe (nn 3 4)) (Mm 3 4 xi):=by delta zu;kernel_rfl
theorem zj2:zu (zF (qk (fsL 3 4 xi)) (zF (fsG true) (qe (nn 3 4)))) (xw 3 4 xi):=by delta zu;kernel_rfl
theorem zj3:zu (zF (qk (fsL 3 4 xi)) (zF (fsG false) (qe (nn 3 4)))) (xw 3 4 xi):=by delta zu;kernel_rfl
theorem zj4:zu (zF (qk (fsL 3 4 xi)) (qe (nn 3 4))) (mT 3 4 xi):=by delta zu;kernel_rfl
theorem zj5:qL (zQ (nn 3 4)) [] []=[]:=by kernel_rfl
theorem zj6:chk (zH Tryz.prog 44 (qb (zF (qk [xw 3 4 xi,mT 3 4 xi]) (qe (nn 3 4))) qx 50 100000) (zi Tryz.prog 44) 20 [] 3 (jE (nn 3 4)) [] 0) (.bc true) (zQ (nn 3 4))=true:=by kernel_rfl
theorem zf4:FsOk 3 4 xi:=⟨xW zjV zjW zjX zjY zjZ zj0 zj1,zj2,zj3,zj4,zj5,zj6⟩
end Go.Proofs.YtoakpnoajmngmaaGreatDoor.Sx
