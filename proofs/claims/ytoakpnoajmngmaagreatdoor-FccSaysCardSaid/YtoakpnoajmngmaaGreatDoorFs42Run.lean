import Derived.Test.YtoakpnoajmngmaaGreatDoorLineA
import Derived.Test.YtoakpnoajmngmaaGreatDoorProg
set_option linter.unusedVariables false
set_option linter.unusedSimpArgs false
namespace Go.Proofs.YtoakpnoajmngmaaGreatDoor.Sx
def xj:Nat->Nat:=fsq [46,66,93,102,122,133,155,171,215]
theorem zj7:zu (qe (nn 4 2)) (Mg 4 2 xj):=by delta zu;kernel_rfl
theorem zj8:zu (qe (nn 4 2)) (Mh 4 2 xj):=by delta zu;kernel_rfl
theorem zj9:zu (qe (nn 4 2)) (Mi 4 2 xj):=by delta zu;kernel_rfl
theorem zka:zu (qe (nn 4 2)) (Mj 4 2 xj):=by delta zu;kernel_rfl
theorem zkb:zu (qe (nn 4 2)) (Mk 4 2 xj):=by delta zu;kernel_rfl
theorem zkc:zu (qe (nn 4 2)) (Ml 4 2 xj):=by delta zu;kernel_rfl
theorem zkd:zu (qe (nn 4 2)) (Mm 4 2 xj):=by delta zu;kernel_rfl
theorem zke:zu (zF (qk (fsL 4 2 xj)) (zF (fsG true) (qe (nn 4 2)))) (xw 4 2 xj):=by delta zu;kernel_rfl
theorem zkf:zu (zF (qk (fsL 4 2 xj)) (zF (fsG false) (qe (nn 4 2)))) (xw 4 2 xj):=by delta zu;kernel_rfl
theorem zkg:zu (zF (qk (fsL 4 2 xj)) (qe (nn 4 2))) (mT 4 2 xj):=by delta zu;kernel_rfl
theorem zkh:qL (zQ (nn 4 2)) [] []=[]:=by kernel_rfl
theorem zki:chk (zH Tryz.prog 44 (qb (zF (qk [xw 4 2 xj,mT 4 2 xj]) (qe (nn 4 2))) qx 50 100000) (zi Tryz.prog 44) 20 [] 3 (jE (nn 4 2)) [] 0) (.bc true) (zQ (nn 4 2))=true:=by kernel_rfl
theorem zf5:FsOk 4 2 xj:=⟨xW zj7 zj8 zj9 zka zkb zkc zkd,zke,zkf,zkg,zkh,zki⟩
end Go.Proofs.YtoakpnoajmngmaaGreatDoor.Sx
