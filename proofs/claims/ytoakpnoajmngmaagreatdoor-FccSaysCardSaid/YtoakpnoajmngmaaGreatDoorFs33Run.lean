import Derived.Test.YtoakpnoajmngmaaGreatDoorLineA
import Derived.Test.YtoakpnoajmngmaaGreatDoorProg
set_option linter.unusedVariables false
set_option linter.unusedSimpArgs false
namespace Go.Proofs.YtoakpnoajmngmaaGreatDoor.Sx
def xh:Nat->Nat:=fsq [41,66,90,97,120,133,154,171,215]
theorem zjJ:zu (qe (nn 3 3)) (Mg 3 3 xh):=by delta zu;kernel_rfl
theorem zjK:zu (qe (nn 3 3)) (Mh 3 3 xh):=by delta zu;kernel_rfl
theorem zjL:zu (qe (nn 3 3)) (Mi 3 3 xh):=by delta zu;kernel_rfl
theorem zjM:zu (qe (nn 3 3)) (Mj 3 3 xh):=by delta zu;kernel_rfl
theorem zjN:zu (qe (nn 3 3)) (Mk 3 3 xh):=by delta zu;kernel_rfl
theorem zjO:zu (qe (nn 3 3)) (Ml 3 3 xh):=by delta zu;kernel_rfl
theorem zjP:zu (qe (nn 3 3)) (Mm 3 3 xh):=by delta zu;kernel_rfl
theorem zjQ:zu (zF (qk (fsL 3 3 xh)) (zF (fsG true) (qe (nn 3 3)))) (xw 3 3 xh):=by delta zu;kernel_rfl
theorem zjR:zu (zF (qk (fsL 3 3 xh)) (zF (fsG false) (qe (nn 3 3)))) (xw 3 3 xh):=by delta zu;kernel_rfl
theorem zjS:zu (zF (qk (fsL 3 3 xh)) (qe (nn 3 3))) (mT 3 3 xh):=by delta zu;kernel_rfl
theorem zjT:qL (zQ (nn 3 3)) [] []=[]:=by kernel_rfl
theorem zjU:chk (zH Tryz.prog 44 (qb (zF (qk [xw 3 3 xh,mT 3 3 xh]) (qe (nn 3 3))) qx 50 100000) (zi Tryz.prog 44) 20 [] 3 (jE (nn 3 3)) [] 0) (.bc true) (zQ (nn 3 3))=true:=by kernel_rfl
theorem zf3:FsOk 3 3 xh:=⟨xW zjJ zjK zjL zjM zjN zjO zjP,zjQ,zjR,zjS,zjT,zjU⟩
end Go.Proofs.YtoakpnoajmngmaaGreatDoor.Sx
