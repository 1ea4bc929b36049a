import Derived.Test.YtoakpnoajmngmaaGreatDoorLineA
import Derived.Test.YtoakpnoajmngmaaGreatDoorProg
set_option linter.unusedVariables false
set_option linter.unusedSimpArgs false
namespace Go.Proofs.YtoakpnoajmngmaaGreatDoor.Sx
def xm:Nat->Nat:=fsq [46,71,98,107,130,143,165,182,229]
theorem zkj:zu (qe (nn 4 3)) (Mg 4 3 xm):=by delta zu;kernel_rfl
theorem zkk:zu (qe (nn 4 3)) (Mh 4 3 xm):=by delta zu;kernel_rfl
theorem zkl:zu (qe (nn 4 3)) (Mi 4 3 xm):=by delta zu;kernel_rfl
theorem zkm:zu (qe (nn 4 3)) (Mj 4 3 xm):=by delta zu;kernel_rfl
theorem zkn:zu (qe (nn 4 3)) (Mk 4 3 xm):=by delta zu;kernel_rfl
theorem zko:zu (qe (nn 4 3)) (Ml 4 3 xm):=by delta zu;kernel_rfl
theorem zkp:zu (qe (nn 4 3)) (Mm 4 3 xm):=by delta zu;kernel_rfl
theorem zkq:zu (zF (qk (fsL 4 3 xm)) (zF (fsG true) (qe (nn 4 3)))) (xw 4 3 xm):=by delta zu;kernel_rfl
theorem zkr:zu (zF (qk (fsL 4 3 xm)) (zF (fsG false) (qe (nn 4 3)))) (xw 4 3 xm):=by delta zu;kernel_rfl
theorem zks:zu (zF (qk (fsL 4 3 xm)) (qe (nn 4 3))) (mT 4 3 xm):=by delta zu;kernel_rfl
theorem zkt:qL (zQ (nn 4 3)) [] []=[]:=by kernel_rfl
theorem zku:chk (zH Tryz.prog 44 (qb (zF (qk [xw 4 3 xm,mT 4 3 xm]) (qe (nn 4 3))) qx 50 100000) (zi Tryz.prog 44) 20 [] 3 (jE (nn 4 3)) [] 0) (.bc true) (zQ (nn 4 3))=true:=by kernel_rfl
theorem zf6:FsOk 4 3 xm:=⟨xW zkj zkk zkl zkm zkn zko zkp,zkq,zkr,zks,zkt,zku⟩
end Go.Proofs.YtoakpnoajmngmaaGreatDoor.Sx
