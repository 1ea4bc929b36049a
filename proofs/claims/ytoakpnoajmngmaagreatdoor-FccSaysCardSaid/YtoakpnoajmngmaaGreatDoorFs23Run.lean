import Derived.Test.YtoakpnoajmngmaaGreatDoorLineA
import Derived.Test.YtoakpnoajmngmaaGreatDoorProg
set_option linter.unusedVariables false
set_option linter.unusedSimpArgs false
namespace Go.Proofs.YtoakpnoajmngmaaGreatDoor.Sx
def xe:Nat->Nat:=fsq [36,61,82,87,110,123,143,160,201]
theorem zi9:zu (qe (nn 2 3)) (Mg 2 3 xe):=by delta zu;kernel_rfl
theorem zja:zu (qe (nn 2 3)) (Mh 2 3 xe):=by delta zu;kernel_rfl
theorem zjb:zu (qe (nn 2 3)) (Mi 2 3 xe):=by delta zu;kernel_rfl
theorem zjc:zu (qe (nn 2 3)) (Mj 2 3 xe):=by delta zu;kernel_rfl
theorem zjd:zu (qe (nn 2 3)) (Mk 2 3 xe):=by delta zu;kernel_rfl
theorem zje:zu (qe (nn 2 3)) (Ml 2 3 xe):=by delta zu;kernel_rfl
theorem zjf:zu (qe (nn 2 3)) (Mm 2 3 xe):=by delta zu;kernel_rfl
theorem zjg:zu (zF (qk (fsL 2 3 xe)) (zF (fsG true) (qe (nn 2 3)))) (xw 2 3 xe):=by delta zu;kernel_rfl
theorem zjh:zu (zF (qk (fsL 2 3 xe)) (zF (fsG false) (qe (nn 2 3)))) (xw 2 3 xe):=by delta zu;kernel_rfl
theorem zji:zu (zF (qk (fsL 2 3 xe)) (qe (nn 2 3))) (mT 2 3 xe):=by delta zu;kernel_rfl
theorem zjj:qL (zQ (nn 2 3)) [] []=[]:=by kernel_rfl
theorem zjk:chk (zH Tryz.prog 44 (qb (zF (qk [xw 2 3 xe,mT 2 3 xe]) (qe (nn 2 3))) qx 50 100000) (zi Tryz.prog 44) 20 [] 3 (jE (nn 2 3)) [] 0) (.bc true) (zQ (nn 2 3))=true:=by kernel_rfl
theorem zf0:FsOk 2 3 xe:=⟨xW zi9 zja zjb zjc zjd zje zjf,zjg,zjh,zji,zjj,zjk⟩
end Go.Proofs.YtoakpnoajmngmaaGreatDoor.Sx
