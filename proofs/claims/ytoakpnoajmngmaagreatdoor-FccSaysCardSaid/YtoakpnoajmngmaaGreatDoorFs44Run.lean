import Derived.Test.YtoakpnoajmngmaaGreatDoorLineA
import Derived.Test.YtoakpnoajmngmaaGreatDoorProg
set_option linter.unusedVariables false
set_option linter.unusedSimpArgs false
namespace Go.Proofs.YtoakpnoajmngmaaGreatDoor.Sx
def xn:Nat->Nat:=fsq [46,76,103,112,138,153,175,193,243]
theorem zkv:zu (qe (nn 4 4)) (Mg 4 4 xn):=by delta zu;kernel_rfl
theorem zkw:zu (qe (nn 4 4)) (Mh 4 4 xn):=by delta zu;kernel_rfl
theorem zkx:zu (qe (nn 4 4)) (Mi 4 4 xn):=by delta zu;kernel_rfl
theorem zky:zu (qe (nn 4 4)) (Mj 4 4 xn):=by delta zu;kernel_rfl
theorem zkz:zu (qe (nn 4 4)) (Mk 4 4 xn):=by delta zu;kernel_rfl
theorem zkA:zu (qe (nn 4 4)) (Ml 4 4 xn):=by delta zu;kernel_rfl
theorem zkB:zu (qe (nn 4 4)) (Mm 4 4 xn):=by delta zu;kernel_rfl
theorem zkC:zu (zF (qk (fsL 4 4 xn)) (zF (fsG true) (qe (nn 4 4)))) (xw 4 4 xn):=by delta zu;kernel_rfl
theorem zkD:zu (zF (qk (fsL 4 4 xn)) (zF (fsG false) (qe (nn 4 4)))) (xw 4 4 xn):=by delta zu;kernel_rfl
theorem zkE:zu (zF (qk (fsL 4 4 xn)) (qe (nn 4 4))) (mT 4 4 xn):=by delta zu;kernel_rfl
theorem zkF:qL (zQ (nn 4 4)) [] []=[]:=by kernel_rfl
theorem zkG:chk (zH Tryz.prog 44 (qb (zF (qk [xw 4 4 xn,mT 4 4 xn]) (qe (nn 4 4))) qx 50 100000) (zi Tryz.prog 44) 20 [] 3 (jE (nn 4 4)) [] 0) (.bc true) (zQ (nn 4 4))=true:=by kernel_rfl
theorem zf7:FsOk 4 4 xn:=⟨xW zkv zkw zkx zky zkz zkA zkB,zkC,zkD,zkE,zkF,zkG⟩
end Go.Proofs.YtoakpnoajmngmaaGreatDoor.Sx
