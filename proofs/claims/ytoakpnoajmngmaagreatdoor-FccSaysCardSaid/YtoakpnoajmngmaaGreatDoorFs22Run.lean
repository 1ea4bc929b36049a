import Derived.Test.YtoakpnoajmngmaaGreatDoorLineA
import Derived.Test.YtoakpnoajmngmaaGreatDoorProg
set_option linter.unusedVariables false
set_option linter.unusedSimpArgs false
namespace Go.Proofs.YtoakpnoajmngmaaGreatDoor.Sx
def xc:Nat->Nat:=fsq [36,56,77,82,102,113,133,149,187]
theorem ziX:zu (qe (nn 2 2)) (Mg 2 2 xc):=by delta zu;kernel_rfl
theorem ziY:zu (qe (nn 2 2)) (Mh 2 2 xc):=by delta zu;kernel_rfl
theorem ziZ:zu (qe (nn 2 2)) (Mi 2 2 xc):=by delta zu;kernel_rfl
theorem zi0:zu (qe (nn 2 2)) (Mj 2 2 xc):=by delta zu;kernel_rfl
theorem zi1:zu (qe (nn 2 2)) (Mk 2 2 xc):=by delta zu;kernel_rfl
theorem zi2:zu (qe (nn 2 2)) (Ml 2 2 xc):=by delta zu;kernel_rfl
theorem zi3:zu (qe (nn 2 2)) (Mm 2 2 xc):=by delta zu;kernel_rfl
theorem zi4:zu (zF (qk (fsL 2 2 xc)) (zF (fsG true) (qe (nn 2 2)))) (xw 2 2 xc):=by delta zu;kernel_rfl
theorem zi5:zu (zF (qk (fsL 2 2 xc)) (zF (fsG false) (qe (nn 2 2)))) (xw 2 2 xc):=by delta zu;kernel_rfl
theorem zi6:zu (zF (qk (fsL 2 2 xc)) (qe (nn 2 2))) (mT 2 2 xc):=by delta zu;kernel_rfl
theorem zi7:qL (zQ (nn 2 2)) [] []=[]:=by kernel_rfl
theorem zi8:chk (zH Tryz.prog 44 (qb (zF (qk [xw 2 2 xc,mT 2 2 xc]) (qe (nn 2 2))) qx 50 100000) (zi Tryz.prog 44) 20 [] 3 (jE (nn 2 2)) [] 0) (.bc true) (zQ (nn 2 2))=true:=by kernel_rfl
theorem zfZ:FsOk 2 2 xc:=⟨xW ziX ziY ziZ zi0 zi1 zi2 zi3,zi4,zi5,zi6,zi7,zi8⟩
end Go.Proofs.YtoakpnoajmngmaaGreatDoor.Sx
