import Derived.Test.YtoakpnoajmngmaaGreatDoorLineA
import Derived.Test.YtoakpnoajmngmaaGreatDoorProg
set_option linter.unusedVariables false
set_option linter.unusedSimpArgs false
namespace Go.Proofs.YtoakpnoajmngmaaGreatDoor.Sx
def xf:Nat->Nat:=fsq [36,66,87,92,118,133,153,171,215]
theorem zjl:zu (qe (nn 2 4)) (Mg 2 4 xf):=by delta zu;kernel_rfl
theorem zjm:zu (qe (nn 2 4)) (Mh 2 4 xf):=by delta zu;kernel_rfl
theorem zjn:zu (qe (nn 2 4)) (Mi 2 4 xf):=by delta zu;kernel_rfl
theorem zjo:zu (qe (nn 2 4)) (Mj 2 4 xf):=by delta zu;kernel_rfl
theorem zjp:zu (qe (nn 2 4)) (Mk 2 4 xf):=by delta zu;kernel_rfl
theorem zjq:zu (qe (nn 2 4)) (Ml 2 4 xf):=by delta zu;kernel_rfl
theorem zjr:zu (qe (nn 2 4)) (Mm 2 4 xf):=by delta zu;kernel_rfl
theorem zjs:zu (zF (qk (fsL 2 4 xf)) (zF (fsG true) (qe (nn 2 4)))) (xw 2 4 xf):=by delta zu;kernel_rfl
theorem zjt:zu (zF (qk (fsL 2 4 xf)) (zF (fsG false) (qe (nn 2 4)))) (xw 2 4 xf):=by delta zu;kernel_rfl
theorem zju:zu (zF (qk (fsL 2 4 xf)) (qe (nn 2 4))) (mT 2 4 xf):=by delta zu;kernel_rfl
theorem zjv:qL (zQ (nn 2 4)) [] []=[]:=by kernel_rfl
theorem zjw:chk (zH Tryz.prog 44 (qb (zF (qk [xw 2 4 xf,mT 2 4 xf]) (qe (nn 2 4))) qx 50 100000) (zi Tryz.prog 44) 20 [] 3 (jE (nn 2 4)) [] 0) (.bc true) (zQ (nn 2 4))=true:=by kernel_rfl
theorem zf1:FsOk 2 4 xf:=⟨xW zjl zjm zjn zjo zjp zjq zjr,zjs,zjt,zju,zjv,zjw⟩
end Go.Proofs.YtoakpnoajmngmaaGreatDoor.Sx
