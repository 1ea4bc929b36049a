import Derived.Test.YtoakpnoajmngmaaGreatDoorLineA
set_option linter.unusedVariables false
set_option linter.unusedSimpArgs false
namespace Go.Proofs.YtoakpnoajmngmaaGreatDoor.Sx
theorem znx:([0,1,5,6,7,8,9].all fun b=>wS (zH Tryz.prog 44 (qb je zO 50 100000) (zi Tryz.prog 44) 20 [] 6 [zL,zN 2 b] [] 0) false)=true:=by kernel_rfl
theorem zny:([0,1,5,6,7,8,9].all fun b=>wS (zH Tryz.prog 44 (qb je zO 50 100000) (zi Tryz.prog 44) 20 [] 12 [zL,zN 2 b] [] 0) true)=true:=by kernel_rfl
theorem zqk:([2,3,4].all fun b=>Qh (zH Tryz.prog 44 (qb je zO 50 100000) (zi Tryz.prog 44) 20 [] 6 [zL,zN 2 b] [] 0) false (zb6 2 b))=true:=by kernel_rfl
theorem zql:([2,3,4].all fun b=>Qh (zH Tryz.prog 44 (qb je zO 50 100000) (zi Tryz.prog 44) 20 [] 12 [zL,zN 2 b] [] 0) true (zb6 2 b))=true:=by kernel_rfl
end Go.Proofs.YtoakpnoajmngmaaGreatDoor.Sx
namespace Go.Proofs.YtoakpnoajmngmaaGreatDoor.Sx
theorem znz:([0,1,5,6,7,8,9].all fun b=>wS (zH Tryz.prog 44 (qb je zO 50 100000) (zi Tryz.prog 44) 20 [] 6 [zL,zN 3 b] [] 0) false)=true:=by kernel_rfl
theorem znA:([0,1,5,6,7,8,9].all fun b=>wS (zH Tryz.prog 44 (qb je zO 50 100000) (zi Tryz.prog 44) 20 [] 12 [zL,zN 3 b] [] 0) true)=true:=by kernel_rfl
theorem zqm:([2,3,4].all fun b=>Qh (zH Tryz.prog 44 (qb je zO 50 100000) (zi Tryz.prog 44) 20 [] 6 [zL,zN 3 b] [] 0) false (zb6 3 b))=true:=by kernel_rfl
theorem zqn:([2,3,4].all fun b=>Qh (zH Tryz.prog 44 (qb je zO 50 100000) (zi Tryz.prog 44) 20 [] 12 [zL,zN 3 b] [] 0) true (zb6 3 b))=true:=by kernel_rfl
end Go.Proofs.YtoakpnoajmngmaaGreatDoor.Sx
