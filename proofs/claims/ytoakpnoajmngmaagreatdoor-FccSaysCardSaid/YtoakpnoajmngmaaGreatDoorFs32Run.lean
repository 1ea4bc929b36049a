import Derived.Test.YtoakpnoajmngmaaGreatDoorLineA
import Derived.Test.YtoakpnoajmngmaaGreatDoorProg
set_option linter.unusedVariables false
set_option linter.unusedSimpArgs false
namespace Go.Proofs.YtoakpnoajmngmaaGreatDoor.Sx
def xg:Nat->Nat:=fsq [41,61,85,92,112,123,144,160,201]
theorem zjx:zu (qe (nn 3 2)) (Mg 3 2 xg):=by delta zu;kernel_rfl
theorem zjy:zu (qe (nn 3 2)) (Mh 3 2 xg):=by delta zu;kernel_rfl
theorem zjz:zu (qe (nn 3 2)) (Mi 3 2 xg):=by delta zu;kernel_rfl
theorem zjA:zu (qe (nn 3 2)) (Mj 3 2 xg):=by delta zu;kernel_rfl
theorem zjB:zu (qe (nn 3 2)) (Mk 3 2 xg):=by delta zu;kernel_rfl
theorem zjC:zu (qe (nn 3 2)) (Ml 3 2 xg):=by delta zu;kernel_rfl
theorem zjD:zu (qe (nn 3 2)) (Mm 3 2 xg):=by delta zu;kernel_rfl
theorem zjE:zu (zF (qk (fsL 3 2 xg)) (zF (fsG true) (qe (nn 3 2)))) (xw 3 2 xg):=by delta zu;kernel_rfl
theorem zjF:zu (zF (qk (fsL 3 2 xg)) (zF (fsG false) (qe (nn 3 2)))) (xw 3 2 xg):=by delta zu;kernel_rfl
theorem zjG:zu (zF (qk (fsL 3 2 xg)) (qe (nn 3 2))) (mT 3 2 xg):=by delta zu;kernel_rfl
theorem zjH:qL (zQ (nn 3 2)) [] []=[]:=by kernel_rfl
theorem zjI:chk (zH Tryz.prog 44 (qb (zF (qk [xw 3 2 xg,mT 3 2 xg]) (qe (nn 3 2))) qx 50 100000) (zi Tryz.prog 44) 20 [] 3 (jE (nn 3 2)) [] 0) (.bc true) (zQ (nn 3 2))=true:=by kernel_rfl
theorem zf2:FsOk 3 2 xg:=⟨xW zjx zjy zjz zjA zjB zjC zjD,zjE,zjF,zjG,zjH,zjI⟩
end Go.Proofs.YtoakpnoajmngmaaGreatDoor.Sx
