import Derived.Test.YtoakpnoajmngmaaGreatDoorLineA
set_option linter.unusedVariables false
set_option linter.unusedSimpArgs false
namespace Go.Proofs.YtoakpnoajmngmaaGreatDoor.Sx
theorem znB:([0,1,5,6,7,8,9].all fun b=>wS (zH Tryz.prog 44 (qb je zO 50 100000) (zi Tryz.prog 44) 20 [] 6 [zL,zN 4 b] [] 0) false)=true:=by kernel_rfl
theorem znC:([0,1,5,6,7,8,9].all fun b=>wS (zH Tryz.prog 44 (qb je zO 50 100000) (zi Tryz.prog 44) 20 [] 12 [zL,zN 4 b] [] 0) true)=true:=by kernel_rfl
theorem zqo:([2,3,4].all fun b=>Qh (zH Tryz.prog 44 (qb je zO 50 100000) (zi Tryz.prog 44) 20 [] 6 [zL,zN 4 b] [] 0) false (zb6 4 b))=true:=by kernel_rfl
theorem zqp:([2,3,4].all fun b=>Qh (zH Tryz.prog 44 (qb je zO 50 100000) (zi Tryz.prog 44) 20 [] 12 [zL,zN 4 b] [] 0) true (zb6 4 b))=true:=by kernel_rfl
end Go.Proofs.YtoakpnoajmngmaaGreatDoor.Sx
namespace Go.Proofs.YtoakpnoajmngmaaGreatDoor.Sx
theorem znD:([0,1,2,3,4,5,6,7,8,9].all fun b=>wS (zH Tryz.prog 44 (qb je zO 50 100000) (zi Tryz.prog 44) 20 [] 6 [zL,zN 5 b] [] 0) false)=true:=by kernel_rfl
theorem znE:([0,1,2,3,4,5,6,7,8,9].all fun b=>wS (zH Tryz.prog 44 (qb je zO 50 100000) (zi Tryz.prog 44) 20 [] 12 [zL,zN 5 b] [] 0) true)=true:=by kernel_rfl
end Go.Proofs.YtoakpnoajmngmaaGreatDoor.Sx
