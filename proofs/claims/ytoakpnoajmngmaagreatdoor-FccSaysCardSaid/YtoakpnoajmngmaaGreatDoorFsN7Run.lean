import Derived.Test.YtoakpnoajmngmaaGreatDoorLineA
set_option linter.unusedVariables false
set_option linter.unusedSimpArgs false
namespace Go.Proofs.YtoakpnoajmngmaaGreatDoor.Sx
theorem znF:([0,1,2,3,4,5,6,7,8,9].all fun b=>wS (zH Tryz.prog 44 (qb je zO 50 100000) (zi Tryz.prog 44) 20 [] 6 [zL,zN 6 b] [] 0) false)=true:=by kernel_rfl
theorem znG:([0,1,2,3,4,5,6,7,8,9].all fun b=>wS (zH Tryz.prog 44 (qb je zO 50 100000) (zi Tryz.prog 44) 20 [] 12 [zL,zN 6 b] [] 0) true)=true:=by kernel_rfl
end Go.Proofs.YtoakpnoajmngmaaGreatDoor.Sx
namespace Go.Proofs.YtoakpnoajmngmaaGreatDoor.Sx
theorem znH:([0,1,2,3,4,5,6,7,8,9].all fun b=>wS (zH Tryz.prog 44 (qb je zO 50 100000) (zi Tryz.prog 44) 20 [] 6 [zL,zN 7 b] [] 0) false)=true:=by kernel_rfl
theorem znI:([0,1,2,3,4,5,6,7,8,9].all fun b=>wS (zH Tryz.prog 44 (qb je zO 50 100000) (zi Tryz.prog 44) 20 [] 12 [zL,zN 7 b] [] 0) true)=true:=by kernel_rfl
end Go.Proofs.YtoakpnoajmngmaaGreatDoor.Sx
