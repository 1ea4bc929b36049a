import Derived.Test.YtoakpnoajmngmaaGreatDoorLineK
import Derived.Test.YtoakpnoajmngmaaGreatDoorProg
import Derived.Test.YtoakpnoajmngmaaGreatDoorFix
set_option linter.unusedVariables false
set_option linter.unusedSimpArgs false
namespace Go.Proofs.YtoakpnoajmngmaaGreatDoor.Sx
def Qw:List (Nat × List (Nat × List Nat)):=[(111,[(0,[0,3]),(1,[4])]),
 (152,[(0,[1]),(1,[1,10]),(2,[2]),(3,[1,3]),(4,[1,3,16]),(5,[2]),(6,[2])]),
 (126,[(0,[1]),(1,[1,3]),(2,[1,51]),(3,[2]),(4,[1,59]),(5,[2]),(6,[1,4]),(7,[1,4,65]),(8,[2]),(9,[69,70,71]),(10,[69,70,71,72]),(11,[6,69,70,71]),(12,[69,70,71,80]),(13,[2]),(14,[69,70,71]),(15,[2])]),
 (166,[(0,[0]),(1,[0,7]),(2,[2]),(3,[0,11]),(4,[2]),(5,[0,3]),(6,[0,3,16]),(7,[2]),(8,[0,4]),(9,[0,4,21]),(10,[0,4]),(11,[0,4,33]),(12,[2]),(13,[2])]),
 (167,[(0,[0]),(1,[5,6,7]),(2,[5,6,7,8]),(3,[4,5,6,7]),(4,[5,6,7,16]),(5,[2]),(6,[5,6,7]),(7,[2])])]
def Gd:List SV:=[.agg [.int .i64 ⟨(.v 20),(-9223372036854775808),9223372036854775807⟩,.int .i64 ⟨(.v 21),(-9223372036854775808),9223372036854775807⟩,.int .i64 ⟨(.v 22),(-9223372036854775808),9223372036854775807⟩,.int .i64 ⟨(.v 23),(-9223372036854775808),9223372036854775807⟩,.int .i64 ⟨(.v 24),(-9223372036854775808),9223372036854775807⟩,.osl 0 [.int .i64 (-9223372036854775808) 9223372036854775807] ⟨(.v 4),0,1000⟩,.osl 1 [.int .i64 (-9223372036854775808) 9223372036854775807] ⟨(.v 6),0,1000⟩]]
def zl5:St:=⟨[(71,⟨[],.int .i64 ⟨(.v 13),0,1000⟩⟩),(70,⟨[],.int .i64 ⟨(.v 6),0,1000⟩⟩),(69,⟨[],.osl 1 [.int .i64 (-9223372036854775808) 9223372036854775807] ⟨(.v 6),0,1000⟩⟩)],[],4,83⟩
def zqO:List LS:=[⟨[(.bin .or (.bin .or (.bin .or (.bin .or (.bv 981781958984974276) (.bin .lt (.v 23) (.c 0))) (.bin .lt (.c 65536) (.v 23))) (.bin .lt (.v 24) (.c 1))) (.bin .lt (.c 4000) (.v 24)))],.ret,⟨[(2,⟨[],.ifc 44 (.int .i64 ⟨(.c 1),1,1⟩)⟩)],[],0,83⟩,⟨[],[]⟩⟩,
 ⟨[(.bin .lt (.v 21) (.v 20)),(.un .not (.bin .or (.bin .or (.bin .or (.bin .or (.bv 981781958984974276) (.bin .lt (.v 23) (.c 0))) (.bin .lt (.c 65536) (.v 23))) (.bin .lt (.v 24) (.c 1))) (.bin .lt (.c 4000) (.v 24))))],.ret,⟨[(2,⟨[],.ifc 44 (.int .i64 ⟨(.c 3),3,3⟩)⟩)],[],0,83⟩,⟨[],[]⟩⟩,
 ⟨[(.un .not (.bin .eq (.ap 62 (.cons (.c 0) (.cons (.c 1) .nil))) (.c 0))),(.bin .le (.v 20) (.v 21)),(.un .not (.bin .or (.bin .or (.bin .or (.bin .or (.bv 981781958984974276) (.bin .lt (.v 23) (.c 0))) (.bin .lt (.c 65536) (.v 23))) (.bin .lt (.v 24) (.c 1))) (.bin .lt (.c 4000) (.v 24))))],.ret,⟨[(2,⟨[],.ifc 44 (.int .i64 ⟨(.v 900),1,5⟩)⟩)],[],0,83⟩,⟨[(900,(.ap 62 (.cons (.c 0) (.cons (.c 1) .nil))))],[]⟩⟩,
 ⟨[(.bin .eq (.ap 62 (.cons (.c 0) (.cons (.c 1) .nil))) (.c 0)),(.bin .le (.v 20) (.v 21)),(.un .not (.bin .or (.bin .or (.bin .or (.bin .or (.bv 981781958984974276) (.bin .lt (.v 23) (.c 0))) (.bin .lt (.c 65536) (.v 23))) (.bin .lt (.v 24) (.c 1))) (.bin .lt (.c 4000) (.v 24))))],.normal,zl5,⟨[(13,(.c 0))],[]⟩⟩]
def zoF:List VC:=[qB 981781958984974276 (pO (pO (pO (pU (pN (pL (.c (-100000)) (.v 20)) (pL (.v 20) (.c 100000)))) (pU (pN (pL (.c (-100000)) (.v 21)) (pL (.v 21) (.c 100000))))) (pT (.v 22) (.c 0))) (pT (.c 1000) (.v 22)))]
theorem zhu:ran (ya Tryz.prog 44 (qb jJ Qw 50 12) 126 (qG Tryz.prog 126 0 10) (start Tryz.prog 126 Gd [] 0)) zqO zoF=true:=by kernel_rfl
def zoG:List VC:=[]
theorem zc4:qL zoF [] []=zoG:=by kernel_rfl
theorem zl6:zoG.all VC.isNo=true:=by kernel_rfl
theorem zoH (ρ:Env):ye ρ zoG=(True):=by kernel_rfl
theorem wl (ρ:Env):qA ρ zoF=(ρ.bv 981781958984974276=((((!((decide ((-100000:Int)<=(ρ.iv 20)))&&(decide ((ρ.iv 20)<=(100000:Int)))))||(!((decide ((-100000:Int)<=(ρ.iv 21)))&&(decide ((ρ.iv 21)<=(100000:Int))))))||(decide ((ρ.iv 22)<(0:Int))))||(decide ((1000:Int)<(ρ.iv 22))))/\
 True):=by kernel_rfl
theorem zc5 (ρ:Env):kJ ρ [(.bin .or (.bin .or (.bin .or (.bin .or (.bv 981781958984974276) (.bin .lt (.v 23) (.c 0))) (.bin .lt (.c 65536) (.v 23))) (.bin .lt (.v 24) (.c 1))) (.bin .lt (.c 4000) (.v 24)))]=((((((ρ.bv 981781958984974276)||(decide ((ρ.iv 23)<(0:Int))))||(decide ((65536:Int)<(ρ.iv 23))))||(decide ((ρ.iv 24)<(1:Int))))||(decide ((4000:Int)<(ρ.iv 24))))=true/\True):=by kernel_rfl
theorem zc6 (ρ:Env):kJ ρ [(.bin .lt (.v 21) (.v 20)),(.un .not (.bin .or (.bin .or (.bin .or (.bin .or (.bv 981781958984974276) (.bin .lt (.v 23) (.c 0))) (.bin .lt (.c 65536) (.v 23))) (.bin .lt (.v 24) (.c 1))) (.bin .lt (.c 4000) (.v 24))))]=((decide ((ρ.iv 21)<(ρ.iv 20)))=true/\(!(((((ρ.bv 981781958984974276)||(decide ((ρ.iv 23)<(0:Int))))||(decide ((65536:Int)<(ρ.iv 23))))||(decide ((ρ.iv 24)<(1:Int))))||(decide ((4000:Int)<(ρ.iv 24)))))=true/\True):=by kernel_rfl
theorem zc7 (ρ:Env):kJ ρ [(.un .not (.bin .eq (.ap 62 (.cons (.c 0) (.cons (.c 1) .nil))) (.c 0))),(.bin .le (.v 20) (.v 21)),(.un .not (.bin .or (.bin .or (.bin .or (.bin .or (.bv 981781958984974276) (.bin .lt (.v 23) (.c 0))) (.bin .lt (.c 65536) (.v 23))) (.bin .lt (.v 24) (.c 1))) (.bin .lt (.c 4000) (.v 24))))]=((!(decide ((ρ.fn 62 ((0:Int)::((1:Int)::[])))=(0:Int))))=true/\(decide ((ρ.iv 20)<=(ρ.iv 21)))=true/\(!(((((ρ.bv 981781958984974276)||(decide ((ρ.iv 23)<(0:Int))))||(decide ((65536:Int)<(ρ.iv 23))))||(decide ((ρ.iv 24)<(1:Int))))||(decide ((4000:Int)<(ρ.iv 24)))))=true/\True):=by kernel_rfl
theorem zc8 (ρ:Env):kJ ρ [(.bin .eq (.ap 62 (.cons (.c 0) (.cons (.c 1) .nil))) (.c 0)),(.bin .le (.v 20) (.v 21)),(.un .not (.bin .or (.bin .or (.bin .or (.bin .or (.bv 981781958984974276) (.bin .lt (.v 23) (.c 0))) (.bin .lt (.c 65536) (.v 23))) (.bin .lt (.v 24) (.c 1))) (.bin .lt (.c 4000) (.v 24))))]=((decide ((ρ.fn 62 ((0:Int)::((1:Int)::[])))=(0:Int)))=true/\(decide ((ρ.iv 20)<=(ρ.iv 21)))=true/\(!(((((ρ.bv 981781958984974276)||(decide ((ρ.iv 23)<(0:Int))))||(decide ((65536:Int)<(ρ.iv 23))))||(decide ((ρ.iv 24)<(1:Int))))||(decide ((4000:Int)<(ρ.iv 24)))))=true/\True):=by kernel_rfl
def zqP:List LS:=[⟨[(.bin .or (.bin .lt (.ap 1100 (.cons (.v 13) .nil)) (.c 0)) (.bin .lt (.c 65536) (.ap 1100 (.cons (.v 13) .nil)))),(.bin .lt (.v 13) (.v 6))],.ret,⟨[(2,⟨[],.ifc 44 (.int .i64 ⟨(.c 1),1,1⟩)⟩)],[],0,83⟩,⟨[],[]⟩⟩,
 ⟨[(.un .not (.bin .or (.bin .lt (.ap 1100 (.cons (.v 13) .nil)) (.c 0)) (.bin .lt (.c 65536) (.ap 1100 (.cons (.v 13) .nil))))),(.bin .lt (.v 13) (.v 6))],.normal,zl5,⟨[(13,(.bin .add (.v 13) (.c 1)))],[]⟩⟩,
 ⟨[(.bin .le (.v 6) (.v 13))],(.exit 0),zl5,⟨[],[]⟩⟩]
def zp5:List VC:=[]
theorem zhv:ran (ya Tryz.prog 44 (qb jJ Qw 50 12) 126 (k9 Tryz.prog 126 10) zl5) zqP zp5=true:=by kernel_rfl
def zoI:List VC:=[]
theorem zc9:qL zp5 [] []=zoI:=by kernel_rfl
theorem zl7:zoI.all VC.isNo=true:=by kernel_rfl
theorem zoJ (ρ:Env):ye ρ zoI=(True):=by kernel_rfl
theorem zda (ρ:Env):kJ ρ [(.bin .or (.bin .lt (.ap 1100 (.cons (.v 13) .nil)) (.c 0)) (.bin .lt (.c 65536) (.ap 1100 (.cons (.v 13) .nil)))),(.bin .lt (.v 13) (.v 6))]=(((decide ((ρ.fn 1100 ((ρ.iv 13)::[]))<(0:Int)))||(decide ((65536:Int)<(ρ.fn 1100 ((ρ.iv 13)::[])))))=true/\(decide ((ρ.iv 13)<(ρ.iv 6)))=true/\True):=by kernel_rfl
theorem zdb (ρ:Env):kJ ρ [(.un .not (.bin .or (.bin .lt (.ap 1100 (.cons (.v 13) .nil)) (.c 0)) (.bin .lt (.c 65536) (.ap 1100 (.cons (.v 13) .nil))))),(.bin .lt (.v 13) (.v 6))]=((!((decide ((ρ.fn 1100 ((ρ.iv 13)::[]))<(0:Int)))||(decide ((65536:Int)<(ρ.fn 1100 ((ρ.iv 13)::[]))))))=true/\(decide ((ρ.iv 13)<(ρ.iv 6)))=true/\True):=by kernel_rfl
theorem zdc (ρ:Env):kJ ρ [(.bin .le (.v 6) (.v 13))]=((decide ((ρ.iv 6)<=(ρ.iv 13)))=true/\True):=by kernel_rfl
def zqQ:List LS:=[⟨[],.ret,⟨[(2,⟨[],.nili⟩)],[],0,83⟩,⟨[],[]⟩⟩]
def zp6:List VC:=[]
theorem zhw:ran (ya Tryz.prog 44 (qb jJ Qw 50 12) 126 (qG Tryz.prog 126 11 13) zl5) zqQ zp6=true:=by kernel_rfl
def zoK:List VC:=[]
theorem zdd:qL zp6 [] []=zoK:=by kernel_rfl
theorem zl8:zoK.all VC.isNo=true:=by kernel_rfl
theorem zoL (ρ:Env):ye ρ zoK=(True):=by kernel_rfl
def Qx:List (Nat × List (Nat × List Nat)):=[(8,[(0,[0,1]),(1,[1,5]),(2,[4]),(3,[4])]),
 (7,[(0,[0]),(1,[0,3]),(2,[0,3,7]),(3,[0,3]),(4,[0,3,14]),(5,[2]),(6,[2])]),
 (20,[(0,[0,1,2]),(1,[6])]),
 (97,[(0,[1]),(1,[2])]),
 (58,[(0,[1]),(1,[1,3]),(2,[1,4]),(3,[1,4,5]),(4,[1,4,5,52]),(5,[1,4,5]),(6,[1,4,5]),(7,[2])]),
 (131,[(0,[0]),(1,[0,3]),(2,[0,3,4]),(3,[0,3,4,8]),(4,[0,3,4]),(5,[0,3,4]),(6,[2])]),
 (132,[(0,[0]),(1,[0,3]),(2,[0,3,7]),(3,[0,3]),(4,[0,3,15]),(5,[2]),(6,[2])])]
def Ge:List SV:=[.agg [.int .i64 ⟨(.v 20),(-9223372036854775808),9223372036854775807⟩,.int .i64 ⟨(.v 21),(-9223372036854775808),9223372036854775807⟩,.int .i64 ⟨(.v 22),(-9223372036854775808),9223372036854775807⟩,.int .i64 ⟨(.v 23),(-9223372036854775808),9223372036854775807⟩,.int .i64 ⟨(.v 24),(-9223372036854775808),9223372036854775807⟩,.osl 0 [.int .i64 (-9223372036854775808) 9223372036854775807] ⟨(.v 4),0,1000⟩,.osl 1 [.int .i64 (-9223372036854775808) 9223372036854775807] ⟨(.v 6),0,1000⟩]]
def zl9:St:=⟨[(5,⟨[],.int .i64 ⟨(.v 13),0,1000⟩⟩),(1,⟨[],.ptr 0 0⟩),(4,⟨[],.int .i64 ⟨(.v 14),0,5⟩⟩)],[(0,⟨[],⟨[.int .i64 ⟨(.v 20),(-9223372036854775808),9223372036854775807⟩,.int .i64 ⟨(.v 21),(-9223372036854775808),9223372036854775807⟩,.int .i64 ⟨(.v 22),(-9223372036854775808),9223372036854775807⟩,.int .i64 ⟨(.v 23),(-9223372036854775808),9223372036854775807⟩,.int .i64 ⟨(.v 24),(-9223372036854775808),9223372036854775807⟩,.osl 0 [.int .i64 (-9223372036854775808) 9223372036854775807] ⟨(.v 4),0,1000⟩,.osl 1 [.int .i64 (-9223372036854775808) 9223372036854775807] ⟨(.v 6),0,1000⟩],71,.full⟩⟩)],2,68⟩
def zqR:List LS:=[⟨[],.normal,zl9,⟨[(13,(.c 0)),(14,(.v 605591424181410422))],[]⟩⟩]
def zoM:List VC:=[qB 1984886886686585156 (pN (pN (pN (pN (pL (.c (-100000)) (.v 20)) (pL (.v 20) (.c 100000))) (pN (pL (.c (-100000)) (.v 21)) (pL (.v 21) (.c 100000)))) (pN (pL (.c 0) (.v 22)) (pL (.v 22) (.c 1000)))) (pN (pL (.c 0) (.v 23)) (pL (.v 23) (.c 65536)))),
 qN 721152690150289087 (.ite (pU (pN (.bv 1984886886686585156) (pN (pL (.c 1) (.v 24)) (pL (.v 24) (.c 4000))))) (.c 1) (.c 0)),
 qN 605591424181410422 (.ite (pU (pQ (.v 721152690150289087) (.c 0))) (.v 721152690150289087) (.ite (pU (pQ (.ite (pT (.v 21) (.v 20)) (.c 3) (.c 0)) (.c 0))) (.ite (pT (.v 21) (.v 20)) (.c 3) (.c 0)) (.ite (pU (pQ (.ap 62 (.cons (.c 0) (.cons (.c 1) .nil))) (.c 0))) (.ap 62 (.cons (.c 0) (.cons (.c 1) .nil))) (.c 0)))),
 qN 802021323893188725 (.ite (pU (pQ (.v 721152690150289087) (.c 0))) (.ite (pT (.v 21) (.v 20)) (.c 3) (.c 0)) (.ite (pU (pQ (.ite (pT (.v 21) (.v 20)) (.c 3) (.c 0)) (.c 0))) (.ite (pT (.v 21) (.v 20)) (.c 3) (.c 0)) (.c 0))),
 qN 230136151862848700 (.ite (pU (pQ (.v 721152690150289087) (.c 0))) (.ap 62 (.cons (.c 0) (.cons (.c 1) .nil))) (.ite (pU (pQ (.ite (pT (.v 21) (.v 20)) (.c 3) (.c 0)) (.c 0))) (.ap 62 (.cons (.c 0) (.cons (.c 1) .nil))) (.ite (pU (pQ (.ap 62 (.cons (.c 0) (.cons (.c 1) .nil))) (.c 0))) (.ap 62 (.cons (.c 0) (.cons (.c 1) .nil))) (.c 0))))]
theorem zhx:ran (ya Tryz.prog 44 (qb jJ Qx 50 12) 58 (qG Tryz.prog 58 0 4) (start Tryz.prog 58 Ge [] 0)) zqR zoM=true:=by kernel_rfl
def zoN:List VC:=[]
theorem zde:qL zoM [] []=zoN:=by kernel_rfl
theorem zma:zoN.all VC.isNo=true:=by kernel_rfl
theorem zoO (ρ:Env):ye ρ zoN=(True):=by kernel_rfl
theorem zdf (ρ:Env):qA ρ zoM=(ρ.bv 1984886886686585156=(((((decide ((-100000:Int)<=(ρ.iv 20)))&&(decide ((ρ.iv 20)<=(100000:Int))))&&((decide ((-100000:Int)<=(ρ.iv 21)))&&(decide ((ρ.iv 21)<=(100000:Int)))))&&((decide ((0:Int)<=(ρ.iv 22)))&&(decide ((ρ.iv 22)<=(1000:Int)))))&&((decide ((0:Int)<=(ρ.iv 23)))&&(decide ((ρ.iv 23)<=(65536:Int)))))/\
 ρ.iv 721152690150289087=(if(!((ρ.bv 1984886886686585156)&&((decide ((1:Int)<=(ρ.iv 24)))&&(decide ((ρ.iv 24)<=(4000:Int))))))=true then(1:Int)else(0:Int))/\
 ρ.iv 605591424181410422=(if(!(decide ((ρ.iv 721152690150289087)=(0:Int))))=true then(ρ.iv 721152690150289087)else(if(!(decide ((if(decide ((ρ.iv 21)<(ρ.iv 20)))=true then(3:Int)else(0:Int))=(0:Int))))=true then(if(decide ((ρ.iv 21)<(ρ.iv 20)))=true then(3:Int)else(0:Int))else(if(!(decide ((ρ.fn 62 ((0:Int)::((1:Int)::[])))=(0:Int))))=true then(ρ.fn 62 ((0:Int)::((1:Int)::[])))else(0:Int))))/\
 ρ.iv 802021323893188725=(if(!(decide ((ρ.iv 721152690150289087)=(0:Int))))=true then(if(decide ((ρ.iv 21)<(ρ.iv 20)))=true then(3:Int)else(0:Int))else(if(!(decide ((if(decide ((ρ.iv 21)<(ρ.iv 20)))=true then(3:Int)else(0:Int))=(0:Int))))=true then(if(decide ((ρ.iv 21)<(ρ.iv 20)))=true then(3:Int)else(0:Int))else(0:Int)))/\
 ρ.iv 230136151862848700=(if(!(decide ((ρ.iv 721152690150289087)=(0:Int))))=true then(ρ.fn 62 ((0:Int)::((1:Int)::[])))else(if(!(decide ((if(decide ((ρ.iv 21)<(ρ.iv 20)))=true then(3:Int)else(0:Int))=(0:Int))))=true then(ρ.fn 62 ((0:Int)::((1:Int)::[])))else(if(!(decide ((ρ.fn 62 ((0:Int)::((1:Int)::[])))=(0:Int))))=true then(ρ.fn 62 ((0:Int)::((1:Int)::[])))else(0:Int))))/\
 True):=by kernel_rfl
def zqS:List LS:=[⟨[(.bin .lt (.v 13) (.v 6))],.normal,zl9,⟨[(13,(.bin .add (.v 13) (.c 1))),(14,(.v 1816263425845145449))],[]⟩⟩,
 ⟨[(.bin .le (.v 6) (.v 13))],(.exit 0),zl9,⟨[],[]⟩⟩]
def zoP:List VC:=[qN 1328276267281285362 (.ite (pU (pN (pL (.c 0) (.ap 1100 (.cons (.v 13) .nil))) (pL (.ap 1100 (.cons (.v 13) .nil)) (.c 65536)))) (.c 1) (.c 0)),
 qN 1816263425845145449 (.ite (pU (pQ (.v 14) (.c 0))) (.v 14) (.ite (pU (pQ (.v 1328276267281285362) (.c 0))) (.v 1328276267281285362) (.c 0))),
 qN 1246756237783304011 (.ite (pU (pQ (.v 14) (.c 0))) (.v 1328276267281285362) (.ite (pU (pQ (.v 1328276267281285362) (.c 0))) (.v 1328276267281285362) (.c 0)))]
theorem zhy:ran (ya Tryz.prog 44 (qb jJ Qx 50 12) 58 (k9 Tryz.prog 58 4) zl9) zqS zoP=true:=by kernel_rfl
def zoQ:List VC:=[]
theorem zdg:qL zoP [] []=zoQ:=by kernel_rfl
theorem zmb:zoQ.all VC.isNo=true:=by kernel_rfl
theorem zoR (ρ:Env):ye ρ zoQ=(True):=by kernel_rfl
theorem zdh (ρ:Env):qA ρ zoP=(ρ.iv 1328276267281285362=(if(!((decide ((0:Int)<=(ρ.fn 1100 ((ρ.iv 13)::[]))))&&(decide ((ρ.fn 1100 ((ρ.iv 13)::[]))<=(65536:Int)))))=true then(1:Int)else(0:Int))/\
 ρ.iv 1816263425845145449=(if(!(decide ((ρ.iv 14)=(0:Int))))=true then(ρ.iv 14)else(if(!(decide ((ρ.iv 1328276267281285362)=(0:Int))))=true then(ρ.iv 1328276267281285362)else(0:Int)))/\
 ρ.iv 1246756237783304011=(if(!(decide ((ρ.iv 14)=(0:Int))))=true then(ρ.iv 1328276267281285362)else(if(!(decide ((ρ.iv 1328276267281285362)=(0:Int))))=true then(ρ.iv 1328276267281285362)else(0:Int)))/\
 True):=by kernel_rfl
theorem zdi (ρ:Env):kJ ρ [(.bin .lt (.v 13) (.v 6))]=((decide ((ρ.iv 13)<(ρ.iv 6)))=true/\True):=by kernel_rfl
theorem zdj (ρ:Env):kJ ρ [(.bin .le (.v 6) (.v 13))]=((decide ((ρ.iv 6)<=(ρ.iv 13)))=true/\True):=by kernel_rfl
def zqT:List LS:=[⟨[],.ret,⟨[(2,⟨[],.int .i64 ⟨(.v 900),0,5⟩⟩)],[],0,68⟩,⟨[(900,(.v 14))],[]⟩⟩]
def zp7:List VC:=[]
theorem zhz:ran (ya Tryz.prog 44 (qb jJ Qx 50 12) 58 (qG Tryz.prog 58 5 7) zl9) zqT zp7=true:=by kernel_rfl
def zoS:List VC:=[]
theorem zdk:qL zp7 [] []=zoS:=by kernel_rfl
theorem zmc:zoS.all VC.isNo=true:=by kernel_rfl
theorem zoT (ρ:Env):ye ρ zoS=(True):=by kernel_rfl
end Go.Proofs.YtoakpnoajmngmaaGreatDoor.Sx
namespace Go.Proofs.YtoakpnoajmngmaaGreatDoor.Sx
open Go.RowKit
theorem Gf {g h:GD} {w:World} (o:g.ok w) (o':h.ok w) (hk:g.ks=[true]) (hk':h.ks=[true]) {L:Int} (hn:(g.n:Int)<=L) (hn':(h.n:Int)<=L) (m:Nat->Int) (h4:m 4=g.n) (h6:m 6=h.n) (b:Bd):∃ρ,ρ.iv=m/\Std lnF lnB (jc g h) ρ/\Mem ρ (· <w.heap.size) w/\(SV.osl 0 [.int .i64 (-9223372036854775808) 9223372036854775807] ⟨.v 4,0,L⟩).ok ρ (· <0)/\(SV.osl 0 [.int .i64 (-9223372036854775808) 9223372036854775807] ⟨.v 4,0,L⟩).den ρ b= .slice g.A g.n g.c/\(SV.osl 1 [.int .i64 (-9223372036854775808) 9223372036854775807] ⟨.v 6,0,L⟩).ok ρ (· <0)/\(SV.osl 1 [.int .i64 (-9223372036854775808) 9223372036854775807] ⟨.v 6,0,L⟩).den ρ b= .slice h.A h.n h.c:=by
 obtain⟨⟨q1,q2,q3,q4⟩,q5⟩:=yj (et:=44) (iv:=m) (bv:=fun _=>false) (fn:=lnF (jc g h)) (fb:=lnB (jc g h)) (fl:=fun _ _=>[]) (zx o o') (k:=0) (m:=4) (sh:=[.int .i64 (-9223372036854775808) 9223372036854775807]) (by show g.ks.map vN=_;rw[hk];rfl) h4 (by show g.ks.length<=100;rw[hk];decide) (· <0) b
 obtain⟨⟨r1,r2,r3,r4⟩,r5⟩:=yj (et:=44) (iv:=m) (bv:=fun _=>false) (fn:=lnF (jc g h)) (fb:=lnB (jc g h)) (fl:=fun _ _=>[]) (zx o o') (k:=1) (m:=6) (sh:=[.int .i64 (-9223372036854775808) 9223372036854775807]) (by show h.ks.map vN=_;rw[hk'];rfl) h6 (by show h.ks.length<=100;rw[hk'];decide) (· <0) b
 exact⟨ja 44 m (fun _=>false) (lnF (jc g h)) (lnB (jc g h)) (fun _ _=>[]) (jc g h),rfl,Std.gen () _ _ _,wQ (zx o o'),⟨⟨q1.1,by show m 4<=L;omega⟩,Int.le_refl (0:Int),q3,q4⟩,q5,⟨⟨r1.1,by show m 6<=L;omega⟩,Int.le_refl (0:Int),r3,r4⟩,r5⟩
theorem JM {f:Nat->Int}:∀ {n:Nat},zX f n=true↔∀k,k<n->0<=f k/\f k<=65536:=by
 intro n
 induction n with
 |zero=>exact⟨fun _ k hk=>absurd hk (Nat.not_lt_zero k),fun _=>rfl⟩
 |succ n ih=>
  simp only[zX,Bool.and_eq_true,decide_eq_true_eq,ih]
  refine⟨fun⟨h1,h2⟩ k hk=>?_,fun h=>⟨fun k hk=>h k (by omega),h n (by omega)⟩⟩
  by_cases hkn:k=n
  ·subst hkn;exact h2
  ·exact h1 k (by omega)
theorem xY {lo hi tu bu mo pl:Int} {ga:Bool} (h:0<=pl/\pl<=5):0<=zK lo hi tu bu mo pl ga/\zK lo hi tu bu mo pl ga<=5:=by
 unfold zK
 split
 ·split
  ·omega
  ·split
   ·split<;>omega
   ·omega
 ·omega
structure HRul (g d:GD) (lo hi tu bu mo:Int) (ρ:Env):Prop where
 two:LTwo g d 0 ρ
 e20:ρ.iv 20=lo
 e21:ρ.iv 21=hi
 e22:ρ.iv 22=tu
 e23:ρ.iv 23=bu
 e24:ρ.iv 24=mo
theorem HRul.same {g d:GD} {lo hi tu bu mo:Int} {ρ ρ':Env} (h:HRul g d lo hi tu bu mo ρ) (hs:Same ρ ρ' [] []):HRul g d lo hi tu bu mo ρ':=⟨h.two.same hs,(zz hs (n:=20) rfl).trans h.e20,(zz hs (n:=21) rfl).trans h.e21,(zz hs (n:=22) rfl).trans h.e22,(zz hs (n:=23) rfl).trans h.e23,(zz hs (n:=24) rfl).trans h.e24⟩
theorem HRul.sub {g d:GD} {lo hi tu bu mo:Int} {ρ:Env} (h:HRul g d lo hi tu bu mo ρ) (σ:Sub) (h4:(ρ.sub σ).iv 4=ρ.iv 4) (h6:(ρ.sub σ).iv 6=ρ.iv 6) (h5:(ρ.sub σ).iv 5=ρ.iv 5) (h20:(ρ.sub σ).iv 20=ρ.iv 20) (h21:(ρ.sub σ).iv 21=ρ.iv 21) (h22:(ρ.sub σ).iv 22=ρ.iv 22) (h23:(ρ.sub σ).iv 23=ρ.iv 23) (h24:(ρ.sub σ).iv 24=ρ.iv 24):HRul g d lo hi tu bu mo (ρ.sub σ):=⟨⟨h.two.std.sub _,h4.trans h.two.l4,h6.trans h.two.l6,h5.trans h.two.ex,h.two.s4,h.two.s6⟩,h20.trans h.e20,h21.trans h.e21,h22.trans h.e22,h23.trans h.e23,h24.trans h.e24⟩
theorem HRul.f62 {g d:GD} {lo hi tu bu mo:Int} {ρ:Env} (h:HRul g d lo hi tu bu mo ρ):ρ.fn 62 [0,1]=zC g.f g.n d.f d.n:=by rw[h.two.std.f rfl];rfl
structure HcI (g d:GD) (lo hi tu bu mo:Int) (ρ:Env):Prop where
 r:HRul g d lo hi tu bu mo ρ
 fine:zK lo hi tu bu mo (zC g.f g.n d.f d.n) (zX d.f d.n)=if zX d.f d.n=true then 0 else 1
 low:0<=ρ.iv 13
 high:ρ.iv 13<=d.n
 all:∀k,k<(ρ.iv 13).toNat->0<=d.f k/\d.f k<=65536
structure HcI2 (g d:GD) (lo hi tu bu mo:Int) (ρ:Env):Prop where
 i:HcI g d lo hi tu bu mo ρ
 all:∀k,k<d.n->0<=d.f k/\d.f k<=65536
theorem HcI.same {g d:GD} {lo hi tu bu mo:Int} {ρ ρ':Env} (h:HcI g d lo hi tu bu mo ρ) (hs:Same ρ ρ' [] []):HcI g d lo hi tu bu mo ρ'/\(d.n-ρ'.iv 13).toNat=(d.n-ρ.iv 13).toNat:=by
 have e:=zz hs (n:=13) rfl
 exact⟨⟨h.r.same hs,h.fine,by rw[e];exact h.low,by rw[e];exact h.high,by rw[e];exact h.all⟩,by rw[e]⟩
structure HrI (g d:GD) (lo hi tu bu mo:Int) (ρ:Env):Prop where
 r:HRul g d lo hi tu bu mo ρ
 low:0<=ρ.iv 13
 high:ρ.iv 13<=d.n
 e:ρ.iv 14=zK lo hi tu bu mo (zC g.f g.n d.f d.n) (zX d.f (ρ.iv 13).toNat)
structure HrI2 (g d:GD) (lo hi tu bu mo:Int) (ρ:Env):Prop where
 i:HrI g d lo hi tu bu mo ρ
 e:ρ.iv 14=zK lo hi tu bu mo (zC g.f g.n d.f d.n) (zX d.f d.n)
theorem HrI.same {g d:GD} {lo hi tu bu mo:Int} {ρ ρ':Env} (h:HrI g d lo hi tu bu mo ρ) (hs:Same ρ ρ' [] []):HrI g d lo hi tu bu mo ρ'/\(d.n-ρ'.iv 13).toNat=(d.n-ρ.iv 13).toNat:=by
 have e:=zz hs (n:=13) rfl
 have e':=zz hs (n:=14) rfl
 exact⟨⟨h.r.same hs,by rw[e];exact h.low,by rw[e];exact h.high,by rw[e,e'];exact h.e⟩,by rw[e]⟩
theorem Yk {lo hi tu bu mo pl:Int} {f:Nat->Int} {n:Nat} (hp:0<=pl):zK lo hi tu bu mo pl (zX f (n+1))=if zK lo hi tu bu mo pl (zX f n)=0 then(if 0<=f n/\f n<=65536 then 0 else 1)else zK lo hi tu bu mo pl (zX f n):=by
 rw[show zX f (n+1)=(zX f n&&decide (0<=f n/\f n<=65536))from rfl]
 generalize zX f n=q
 unfold zK
 by_cases h0:(-100000<=lo/\lo<=100000)/\(-100000<=hi/\hi<=100000)/\(0<=tu/\tu<=1000)/\(0<=bu/\bu<=65536)/\(1<=mo/\mo<=4000)
 ·simp only[if_pos h0]
  by_cases h1:hi<lo
  ·simp[h1]
  ·simp only[if_neg h1]
   by_cases h2:pl=0
   ·by_cases h:0<=f n/\f n<=65536<;>cases q<;>simp[h,h2]
   ·simp[h2]
 ·simp[if_neg h0]
set_option maxRecDepth 100000 in
set_option maxHeartbeats 1000000 in
theorem JN (g d:GD) (hk:g.ks=[true]) (hk':d.ks=[true]) (hn:g.n<=1000) (hn':d.n<=1000) (lo hi tu bu mo:Int) (b20:B64 lo) (b21:B64 hi) (b22:B64 tu) (b23:B64 bu) (b24:B64 mo) (w:World) (o:g.ok w) (o':d.ok w):
  Calls Tryz.prog 126 #[.agg #[.int .i64 lo,.int .i64 hi,.int .i64 tu,.int .i64 bu,.int .i64 mo,.slice g.A g.n g.c,.slice d.A d.n d.c]] w fun e w'=>e= .returned (qp (zK lo hi tu bu mo (zC g.f g.n d.f d.n) (zX d.f d.n)))/\Below w.heap.size w w':=by
 obtain⟨ρ0,hiv,hstd,hm,s1,s2,s3,s4⟩:=Gf o o' hk hk' (L:=1000) (by omega) (by omega) (fun n=>match n with|4=>g.n|6=>d.n|20=>lo|21=>hi|22=>tu|23=>bu|24=>mo|_=>0) rfl rfl ⟨fun _=>0,fun _=>0,fun _=>0⟩
 have h0:HRul g d lo hi tu bu mo ρ0:=⟨⟨hstd,congrFun hiv 4,congrFun hiv 6,congrFun hiv 5,hn,hn'⟩,congrFun hiv 20,congrFun hiv 21,congrFun hiv 22,congrFun hiv 23,congrFun hiv 24⟩
 have key:=jh (P:=Tryz.prog) (cfg:=qb jJ Qw 50 12) Tryz.func126 rfl (k:=10) (i:=0) (n:=13) (by decide+kernel) (by kernel_rfl) (args:=Gd) (H:=[]) (nx:=0) zhu zc4 zl6 zhv zc9 zl7 zhw zdd zl8 (V:=qp (zK lo hi tu bu mo (zC g.f g.n d.f d.n) (zX d.f d.n))) (HRul g d lo hi tu bu mo) (HcI g d lo hi tu bu mo) (HcI2 g d lo hi tu bu mo) (fun ρ=>(d.n-ρ.iv 13).toNat)
  (fun ρ h=>⟨h.two.std.et,xX h.two.std (zx o o') (kP hk hk')⟩) (fun ρ h=>⟨h.r.two.std.et,xX h.r.two.std (zx o o') (kP hk hk')⟩) (fun ρ ρ' h hs=>h.same hs) (fun ρ ρ' h hs=>h.same hs) (fun ρ h=>h.i) (fun ρ ρ' h hs=>⟨(h.i.same hs).1,h.all⟩) (by kernel_rfl)
  (fun ρ h=>by
   have h1:=h.two.l4
   have h2:=h.two.s4
   have h3:=h.two.l6
   have h4:=h.two.s6
   have k20:=h.e20
   have k21:=h.e21
   have k22:=h.e22
   have k23:=h.e23
   have k24:=h.e24
   unfold B64 at b20 b21 b22 b23 b24
   refine List.forall_mem_cons.2 ⟨?_,List.forall_mem_cons.2 ⟨?_,List.forall_mem_cons.2 ⟨?_,List.forall_mem_cons.2 ⟨?_,List.forall_mem_cons.2 ⟨?_,List.forall_mem_cons.2 ⟨?_,List.forall_mem_cons.2 ⟨?_,fun _ h=>nomatch h⟩⟩⟩⟩⟩⟩⟩
   ·exact zg (z:=ρ.iv 20) rfl (by show(-9223372036854775808:Int)<=ρ.iv 20;omega) (by show ρ.iv 20<=9223372036854775807;omega)
   ·exact zg (z:=ρ.iv 21) rfl (by show(-9223372036854775808:Int)<=ρ.iv 21;omega) (by show ρ.iv 21<=9223372036854775807;omega)
   ·exact zg (z:=ρ.iv 22) rfl (by show(-9223372036854775808:Int)<=ρ.iv 22;omega) (by show ρ.iv 22<=9223372036854775807;omega)
   ·exact zg (z:=ρ.iv 23) rfl (by show(-9223372036854775808:Int)<=ρ.iv 23;omega) (by show ρ.iv 23<=9223372036854775807;omega)
   ·exact zg (z:=ρ.iv 24) rfl (by show(-9223372036854775808:Int)<=ρ.iv 24;omega) (by show ρ.iv 24<=9223372036854775807;omega)
   ·exact zg (z:=ρ.iv 4) rfl (by show(0:Int)<=ρ.iv 4;omega) (by show ρ.iv 4<=1000;omega)
   ·exact zg (z:=ρ.iv 6) rfl (by show(0:Int)<=ρ.iv 6;omega) (by show ρ.iv 6<=1000;omega))
  (fun ρ h=>by
   have h1:=h.low
   have h2:=h.high
   have h3:=h.r.two.l4
   have h4:=h.r.two.s4
   have h5:=h.r.two.l6
   have h6:=h.r.two.s6
   refine List.forall_mem_cons.2 ⟨?_,List.forall_mem_cons.2 ⟨?_,List.forall_mem_cons.2 ⟨?_,fun _ h=>nomatch h⟩⟩⟩
   ·exact zg (z:=ρ.iv 13) rfl (by show(0:Int)<=ρ.iv 13;omega) (by show ρ.iv 13<=1000;omega)
   ·exact zg (z:=ρ.iv 6) rfl (by show(0:Int)<=ρ.iv 6;omega) (by show ρ.iv 6<=1000;omega)
   ·exact zg (z:=ρ.iv 6) rfl (by show(0:Int)<=ρ.iv 6;omega) (by show ρ.iv 6<=1000;omega))
  (fun ρ h hv=>Eq.mpr (zoH ρ) (by
   trivial))
  (fun ρ h hv=>Eq.mpr (zoJ ρ) (by
   trivial))
  (fun ρ h hv=>Eq.mpr (zoL ρ) (by
   trivial))
  (by
   refine List.forall_mem_cons.2 ⟨?_,List.forall_mem_cons.2 ⟨?_,List.forall_mem_cons.2 ⟨?_,List.forall_mem_cons.2 ⟨?_,fun _ h=>nomatch h⟩⟩⟩⟩
   ·intro ρ h hv hp
    obtain⟨c0,_⟩:=Eq.mp (zc5 ρ) hp
    have p62:=h.f62
    obtain⟨hq,_⟩:=Eq.mp (wl ρ) hv
    have k20:=h.e20
    have k21:=h.e21
    have k22:=h.e22
    have k23:=h.e23
    have k24:=h.e24
    refine .inl ⟨rfl,List.forall_mem_cons.2 ⟨jf _ _,fun _ h=>nomatch h⟩,[.ifc 44 (.int .i64 ⟨(.c 1),1,1⟩)],by kernel_rfl,fun b=>?_⟩
    have e:zK lo hi tu bu mo (zC g.f g.n d.f d.n) (zX d.f d.n)=1:=by
     rw[hq]at c0
     simp only[k20,k21,k22,k23,k24,Bool.or_eq_true,Bool.not_eq_true',Bool.and_eq_false_imp,decide_eq_true_eq,decide_eq_false_iff_not]at c0
     unfold zK
     rw[if_neg (by omega)]
    rw[e]
    rfl
   ·intro ρ h hv hp
    obtain⟨c0,c1,_⟩:=Eq.mp (zc6 ρ) hp
    have p62:=h.f62
    obtain⟨hq,_⟩:=Eq.mp (wl ρ) hv
    have k20:=h.e20
    have k21:=h.e21
    have k22:=h.e22
    have k23:=h.e23
    have k24:=h.e24
    refine .inl ⟨rfl,List.forall_mem_cons.2 ⟨jf _ _,fun _ h=>nomatch h⟩,[.ifc 44 (.int .i64 ⟨(.c 3),3,3⟩)],by kernel_rfl,fun b=>?_⟩
    have e:zK lo hi tu bu mo (zC g.f g.n d.f d.n) (zX d.f d.n)=3:=by
     rw[hq]at c1
     simp only[k20,k21,k22,k23,k24,Bool.not_eq_true',Bool.or_eq_false_iff,Bool.and_eq_true,Bool.not_eq_false',decide_eq_true_eq,decide_eq_false_iff_not]at c0 c1
     unfold zK
     rw[if_pos (by omega),if_pos (by omega)]
    rw[e]
    rfl
   ·intro ρ h hv hp
    obtain⟨c0,c1,c2,_⟩:=Eq.mp (zc7 ρ) hp
    have p62:=h.f62
    obtain⟨hq,_⟩:=Eq.mp (wl ρ) hv
    have k20:=h.e20
    have k21:=h.e21
    have k22:=h.e22
    have k23:=h.e23
    have k24:=h.e24
    refine .inl ⟨rfl,List.forall_mem_cons.2 ⟨?_,fun _ h=>nomatch h⟩,[.ifc 44 (.int .i64 ⟨(.v 900),1,5⟩)],by kernel_rfl,fun b=>?_⟩
    all_goals
     have e:zK lo hi tu bu mo (zC g.f g.n d.f d.n) (zX d.f d.n)=zC g.f g.n d.f d.n/\¬zC g.f g.n d.f d.n=0:=by
      rw[hq]at c2
      simp only[k20,k21,k22,k23,k24,p62,Bool.not_eq_true',Bool.or_eq_false_iff,Bool.and_eq_true,Bool.not_eq_false',decide_eq_true_eq,decide_eq_false_iff_not]at c0 c1 c2
      unfold zK
      rw[if_pos (by omega),if_neg (by omega),if_neg c0]
      exact⟨rfl,c0⟩
    all_goals have hb:=qw g.f g.n d.f d.n
    ·exact zg (z:=zC g.f g.n d.f d.n) p62 (by show(1:Int)<=_;omega) (by show _<=(5:Int);omega)
    ·show Value.iface 44 (.int .i64 (ρ.fn 62 [0,1]))=_
     rw[p62,e.1,qp,if_neg e.2]
   ·intro ρ h hv hp
    obtain⟨c0,c1,c2,_⟩:=Eq.mp (zc8 ρ) hp
    have p62:=h.f62
    obtain⟨hq,_⟩:=Eq.mp (wl ρ) hv
    have k20:=h.e20
    have k21:=h.e21
    have k22:=h.e22
    have k23:=h.e23
    have k24:=h.e24
    refine .inr ⟨rfl,rfl,?_⟩
    have e:zK lo hi tu bu mo (zC g.f g.n d.f d.n) (zX d.f d.n)=if zX d.f d.n=true then 0 else 1:=by
     rw[hq]at c2
     simp only[k20,k21,k22,k23,k24,p62,Bool.not_eq_true',Bool.or_eq_false_iff,Bool.and_eq_true,Bool.not_eq_false',decide_eq_true_eq,decide_eq_false_iff_not]at c0 c1 c2
     unfold zK
     rw[if_pos (by omega),if_neg (by omega),if_pos c0]
    exact⟨h.sub _ rfl rfl rfl rfl rfl rfl rfl rfl,e,Int.le_refl _,by show(0:Int)<=d.n;omega,fun k hk=>absurd hk (by show ¬k<0;omega)⟩)
  (by
   refine List.forall_mem_cons.2 ⟨?_,List.forall_mem_cons.2 ⟨?_,List.forall_mem_cons.2 ⟨?_,fun _ h=>nomatch h⟩⟩⟩
   ·intro ρ h hv hp
    obtain⟨c0,c1,_⟩:=Eq.mp (zda ρ) hp
    refine .inr (.inr ⟨rfl,List.forall_mem_cons.2 ⟨jf _ _,fun _ h=>nomatch h⟩,[.ifc 44 (.int .i64 ⟨(.c 1),1,1⟩)],by kernel_rfl,fun b=>?_⟩)
    have l6:=h.r.two.l6
    have h1:=h.low
    rw[h.r.two.g]at c0
    simp only[Bool.or_eq_true,decide_eq_true_eq]at c0 c1
    have hf:zX d.f d.n=false:=by
     cases hq:zX d.f d.n with
     |false=>rfl
     |true=>
      have:=JM.1 hq (ρ.iv 13).toNat (by omega)
      omega
    rw[h.fine,hf]
    rfl
   ·intro ρ h hv hp
    obtain⟨c0,c1,_⟩:=Eq.mp (zdb ρ) hp
    refine .inl ⟨rfl,rfl,?_,?_⟩
    ·have l6:=h.r.two.l6
     have h1:=h.low
     rw[h.r.two.g]at c0
     simp only[Bool.not_eq_true',Bool.or_eq_false_iff,decide_eq_true_eq,decide_eq_false_iff_not]at c0 c1
     refine⟨h.r.sub _ rfl rfl rfl rfl rfl rfl rfl rfl,h.fine,by show 0<=ρ.iv 13+1;omega,by show ρ.iv 13+1<=d.n;omega,?_⟩
     show ∀k,k<(ρ.iv 13+1).toNat->_
     intro k hk
     by_cases hk':k<(ρ.iv 13).toNat
     ·exact h.all k hk'
     ·have e2:(ρ.iv 13).toNat=k:=by omega
      rw[e2]at c0
      omega
    ·have l6:=h.r.two.l6
     simp only[decide_eq_true_eq]at c1
     show(d.n-(ρ.iv 13+1)).toNat<(d.n-ρ.iv 13).toNat
     omega
   ·intro ρ h hv hp
    obtain⟨c0,_⟩:=Eq.mp (zdc ρ) hp
    refine .inr (.inl ⟨rfl,rfl,?_⟩)
    have l6:=h.r.two.l6
    have h1:=h.low
    have h2:=h.high
    simp only[decide_eq_true_eq]at c0
    have e:(ρ.iv 13).toNat=d.n:=by omega
    exact⟨⟨h.r.sub _ rfl rfl rfl rfl rfl rfl rfl rfl,h.fine,h.low,h.high,h.all⟩,by rw[<-e];exact h.all⟩)
  (by
   refine List.forall_mem_cons.2 ⟨?_,fun _ h=>nomatch h⟩
   ·intro ρ h hv hp
    refine⟨.inr rfl,(fun _ h=>nomatch h),[.nili],by kernel_rfl,fun b=>?_⟩
    rw[h.i.fine,JM.2 h.all]
    rfl)
  h0 ⟨fun _=>0,fun _=>0,fun _=>0⟩ w (qU _ _ _ _) ⟨⟨⟨by show _<=ρ0.iv 20;rw[h0.e20];exact b20.1,by show ρ0.iv 20<=_;rw[h0.e20];exact b20.2⟩,⟨by show _<=ρ0.iv 21;rw[h0.e21];exact b21.1,by show ρ0.iv 21<=_;rw[h0.e21];exact b21.2⟩,⟨by show _<=ρ0.iv 22;rw[h0.e22];exact b22.1,by show ρ0.iv 22<=_;rw[h0.e22];exact b22.2⟩,⟨by show _<=ρ0.iv 23;rw[h0.e23];exact b23.1,by show ρ0.iv 23<=_;rw[h0.e23];exact b23.2⟩,⟨by show _<=ρ0.iv 24;rw[h0.e24];exact b24.1,by show ρ0.iv 24<=_;rw[h0.e24];exact b24.2⟩,s1,s3,trivial⟩,trivial⟩ hm
 have e:SV.denL ρ0 ⟨fun _=>0,fun _=>0,fun _=>0⟩ Gd=[.agg #[.int .i64 lo,.int .i64 hi,.int .i64 tu,.int .i64 bu,.int .i64 mo,.slice g.A g.n g.c,.slice d.A d.n d.c]]:=by
  unfold Gd
  simp only[SV.denL]
  rw[zA]
  simp only[SV.denL,zh,E.i,h0.e20,h0.e21,h0.e22,h0.e23,h0.e24]
  rw[s2,s4]
 rw[e]at key
 exact key
set_option maxRecDepth 100000 in
set_option maxHeartbeats 1000000 in
theorem wX (g d:GD) (hk:g.ks=[true]) (hk':d.ks=[true]) (hn:g.n<=1000) (hn':d.n<=1000) (lo hi tu bu mo:Int) (b20:B64 lo) (b21:B64 hi) (b22:B64 tu) (b23:B64 bu) (b24:B64 mo) (w:World) (o:g.ok w) (o':d.ok w):
  Calls Tryz.prog 58 #[.agg #[.int .i64 lo,.int .i64 hi,.int .i64 tu,.int .i64 bu,.int .i64 mo,.slice g.A g.n g.c,.slice d.A d.n d.c]] w fun e w'=>e= .returned (.int .i64 (zK lo hi tu bu mo (zC g.f g.n d.f d.n) (zX d.f d.n)))/\Below w.heap.size w w':=by
 obtain⟨ρ0,hiv,hstd,hm,s1,s2,s3,s4⟩:=Gf o o' hk hk' (L:=1000) (by omega) (by omega) (fun n=>match n with|4=>g.n|6=>d.n|20=>lo|21=>hi|22=>tu|23=>bu|24=>mo|_=>0) rfl rfl ⟨fun _=>0,fun _=>0,fun _=>0⟩
 have h0:HRul g d lo hi tu bu mo ρ0:=⟨⟨hstd,congrFun hiv 4,congrFun hiv 6,congrFun hiv 5,hn,hn'⟩,congrFun hiv 20,congrFun hiv 21,congrFun hiv 22,congrFun hiv 23,congrFun hiv 24⟩
 have key:=jh (P:=Tryz.prog) (cfg:=qb jJ Qx 50 12) Tryz.func58 rfl (k:=4) (i:=0) (n:=7) (by decide+kernel) (by kernel_rfl) (args:=Ge) (H:=[]) (nx:=0) zhx zde zma zhy zdg zmb zhz zdk zmc (V:= .int .i64 (zK lo hi tu bu mo (zC g.f g.n d.f d.n) (zX d.f d.n))) (HRul g d lo hi tu bu mo) (HrI g d lo hi tu bu mo) (HrI2 g d lo hi tu bu mo) (fun ρ=>(d.n-ρ.iv 13).toNat)
  (fun ρ h=>⟨h.two.std.et,xX h.two.std (zx o o') (kP hk hk')⟩) (fun ρ h=>⟨h.r.two.std.et,xX h.r.two.std (zx o o') (kP hk hk')⟩) (fun ρ ρ' h hs=>h.same hs) (fun ρ ρ' h hs=>h.same hs) (fun ρ h=>h.i) (fun ρ ρ' h hs=>⟨(h.i.same hs).1,by rw[zz hs (n:=14) rfl];exact h.e⟩) (by kernel_rfl)
  (fun ρ h=>by
   have h1:=h.two.l4
   have h2:=h.two.s4
   have h3:=h.two.l6
   have h4:=h.two.s6
   have k20:=h.e20
   have k21:=h.e21
   have k22:=h.e22
   have k23:=h.e23
   have k24:=h.e24
   unfold B64 at b20 b21 b22 b23 b24
   refine List.forall_mem_cons.2 ⟨?_,List.forall_mem_cons.2 ⟨?_,List.forall_mem_cons.2 ⟨?_,List.forall_mem_cons.2 ⟨?_,List.forall_mem_cons.2 ⟨?_,List.forall_mem_cons.2 ⟨?_,List.forall_mem_cons.2 ⟨?_,fun _ h=>nomatch h⟩⟩⟩⟩⟩⟩⟩
   ·exact zg (z:=ρ.iv 20) rfl (by show(-9223372036854775808:Int)<=ρ.iv 20;omega) (by show ρ.iv 20<=9223372036854775807;omega)
   ·exact zg (z:=ρ.iv 21) rfl (by show(-9223372036854775808:Int)<=ρ.iv 21;omega) (by show ρ.iv 21<=9223372036854775807;omega)
   ·exact zg (z:=ρ.iv 22) rfl (by show(-9223372036854775808:Int)<=ρ.iv 22;omega) (by show ρ.iv 22<=9223372036854775807;omega)
   ·exact zg (z:=ρ.iv 23) rfl (by show(-9223372036854775808:Int)<=ρ.iv 23;omega) (by show ρ.iv 23<=9223372036854775807;omega)
   ·exact zg (z:=ρ.iv 24) rfl (by show(-9223372036854775808:Int)<=ρ.iv 24;omega) (by show ρ.iv 24<=9223372036854775807;omega)
   ·exact zg (z:=ρ.iv 4) rfl (by show(0:Int)<=ρ.iv 4;omega) (by show ρ.iv 4<=1000;omega)
   ·exact zg (z:=ρ.iv 6) rfl (by show(0:Int)<=ρ.iv 6;omega) (by show ρ.iv 6<=1000;omega))
  (fun ρ h=>by
   have h1:=h.low
   have h2:=h.high
   have h3:=h.r.two.l4
   have h4:=h.r.two.s4
   have h5:=h.r.two.l6
   have h6:=h.r.two.s6
   have k20:=h.r.e20
   have k21:=h.r.e21
   have k22:=h.r.e22
   have k23:=h.r.e23
   have k24:=h.r.e24
   unfold B64 at b20 b21 b22 b23 b24
   have hb:=xY (lo:=lo) (hi:=hi) (tu:=tu) (bu:=bu) (mo:=mo) (ga:=zX d.f (ρ.iv 13).toNat) (qw g.f g.n d.f d.n)
   rw[<-h.e]at hb
   refine List.forall_mem_cons.2 ⟨?_,List.forall_mem_cons.2 ⟨?_,List.forall_mem_cons.2 ⟨?_,List.forall_mem_cons.2 ⟨?_,List.forall_mem_cons.2 ⟨?_,List.forall_mem_cons.2 ⟨?_,List.forall_mem_cons.2 ⟨?_,List.forall_mem_cons.2 ⟨?_,List.forall_mem_cons.2 ⟨?_,fun _ h=>nomatch h⟩⟩⟩⟩⟩⟩⟩⟩⟩
   ·exact zg (z:=ρ.iv 13) rfl (by show(0:Int)<=ρ.iv 13;omega) (by show ρ.iv 13<=1000;omega)
   ·exact zg (z:=ρ.iv 14) rfl (by show(0:Int)<=ρ.iv 14;omega) (by show ρ.iv 14<=5;omega)
   ·exact zg (z:=ρ.iv 20) rfl (by show(-9223372036854775808:Int)<=ρ.iv 20;omega) (by show ρ.iv 20<=9223372036854775807;omega)
   ·exact zg (z:=ρ.iv 21) rfl (by show(-9223372036854775808:Int)<=ρ.iv 21;omega) (by show ρ.iv 21<=9223372036854775807;omega)
   ·exact zg (z:=ρ.iv 22) rfl (by show(-9223372036854775808:Int)<=ρ.iv 22;omega) (by show ρ.iv 22<=9223372036854775807;omega)
   ·exact zg (z:=ρ.iv 23) rfl (by show(-9223372036854775808:Int)<=ρ.iv 23;omega) (by show ρ.iv 23<=9223372036854775807;omega)
   ·exact zg (z:=ρ.iv 24) rfl (by show(-9223372036854775808:Int)<=ρ.iv 24;omega) (by show ρ.iv 24<=9223372036854775807;omega)
   ·exact zg (z:=ρ.iv 4) rfl (by show(0:Int)<=ρ.iv 4;omega) (by show ρ.iv 4<=1000;omega)
   ·exact zg (z:=ρ.iv 6) rfl (by show(0:Int)<=ρ.iv 6;omega) (by show ρ.iv 6<=1000;omega))
  (fun ρ h hv=>Eq.mpr (zoO ρ) (by
   trivial))
  (fun ρ h hv=>Eq.mpr (zoR ρ) (by
   trivial))
  (fun ρ h hv=>Eq.mpr (zoT ρ) (by
   trivial))
  (by
   refine List.forall_mem_cons.2 ⟨?_,fun _ h=>nomatch h⟩
   ·intro ρ h hv hp
    refine .inr ⟨rfl,rfl,?_⟩
    have p62:=h.f62
    obtain⟨q1,q2,q3,_⟩:=Eq.mp (zdf ρ) hv
    have hb:=qw g.f g.n d.f d.n
    rw[q1,p62]at*
    simp only[h.e20,h.e21,h.e22,h.e23,h.e24]at q2
    refine⟨h.sub _ rfl rfl rfl rfl rfl rfl rfl rfl,Int.le_refl _,by show(0:Int)<=d.n;omega,?_⟩
    show ρ.iv 605591424181410422=zK lo hi tu bu mo (zC g.f g.n d.f d.n) true
    rw[q3,q2,h.e20,h.e21]
    generalize zC g.f g.n d.f d.n=pl at*
    unfold zK
    grind)
  (by
   refine List.forall_mem_cons.2 ⟨?_,List.forall_mem_cons.2 ⟨?_,fun _ h=>nomatch h⟩⟩
   ·intro ρ h hv hp
    obtain⟨c0,_⟩:=Eq.mp (zdi ρ) hp
    refine .inl ⟨rfl,rfl,?_,?_⟩
    ·have l6:=h.r.two.l6
     have h1:=h.low
     simp only[decide_eq_true_eq]at c0
     obtain⟨q1,q2,_⟩:=Eq.mp (zdh ρ) hv
     rw[h.r.two.g]at q1
     refine⟨h.r.sub _ rfl rfl rfl rfl rfl rfl rfl rfl,by show 0<=ρ.iv 13+1;omega,by show ρ.iv 13+1<=d.n;omega,?_⟩
     show ρ.iv 1816263425845145449=zK lo hi tu bu mo (zC g.f g.n d.f d.n) (zX d.f (ρ.iv 13+1).toNat)
     rw[show(ρ.iv 13+1).toNat=(ρ.iv 13).toNat+1 by omega,Yk (qw _ _ _ _).1,<-h.e,q2,q1]
     grind
    ·have l6:=h.r.two.l6
     simp only[decide_eq_true_eq]at c0
     show(d.n-(ρ.iv 13+1)).toNat<(d.n-ρ.iv 13).toNat
     omega
   ·intro ρ h hv hp
    obtain⟨c0,_⟩:=Eq.mp (zdj ρ) hp
    refine .inr (.inl ⟨rfl,rfl,?_⟩)
    have l6:=h.r.two.l6
    have h1:=h.low
    have h2:=h.high
    simp only[decide_eq_true_eq]at c0
    have e:(ρ.iv 13).toNat=d.n:=by omega
    exact⟨⟨h.r.sub _ rfl rfl rfl rfl rfl rfl rfl rfl,h.low,h.high,h.e⟩,by have:=h.e;rw[e]at this;exact this⟩)
  (by
   refine List.forall_mem_cons.2 ⟨?_,fun _ h=>nomatch h⟩
   ·intro ρ h hv hp
    refine⟨.inr rfl,List.forall_mem_cons.2 ⟨?_,fun _ h=>nomatch h⟩,[.int .i64 ⟨(.v 900),0,5⟩],by kernel_rfl,fun b=>?_⟩
    ·have hb:=xY (lo:=lo) (hi:=hi) (tu:=tu) (bu:=bu) (mo:=mo) (ga:=zX d.f d.n) (qw g.f g.n d.f d.n)
     exact zg (z:=zK lo hi tu bu mo (zC g.f g.n d.f d.n) (zX d.f d.n)) h.e (by show(0:Int)<=_;omega) (by show _<=(5:Int);omega)
    ·show Value.int .i64 (ρ.iv 14)=_
     rw[h.e])
  h0 ⟨fun _=>0,fun _=>0,fun _=>0⟩ w (qU _ _ _ _) ⟨⟨⟨by show _<=ρ0.iv 20;rw[h0.e20];exact b20.1,by show ρ0.iv 20<=_;rw[h0.e20];exact b20.2⟩,⟨by show _<=ρ0.iv 21;rw[h0.e21];exact b21.1,by show ρ0.iv 21<=_;rw[h0.e21];exact b21.2⟩,⟨by show _<=ρ0.iv 22;rw[h0.e22];exact b22.1,by show ρ0.iv 22<=_;rw[h0.e22];exact b22.2⟩,⟨by show _<=ρ0.iv 23;rw[h0.e23];exact b23.1,by show ρ0.iv 23<=_;rw[h0.e23];exact b23.2⟩,⟨by show _<=ρ0.iv 24;rw[h0.e24];exact b24.1,by show ρ0.iv 24<=_;rw[h0.e24];exact b24.2⟩,s1,s3,trivial⟩,trivial⟩ hm
 have e:SV.denL ρ0 ⟨fun _=>0,fun _=>0,fun _=>0⟩ Ge=[.agg #[.int .i64 lo,.int .i64 hi,.int .i64 tu,.int .i64 bu,.int .i64 mo,.slice g.A g.n g.c,.slice d.A d.n d.c]]:=by
  unfold Ge
  simp only[SV.denL]
  rw[zA]
  simp only[SV.denL,zh,E.i,h0.e20,h0.e21,h0.e22,h0.e23,h0.e24]
  rw[s2,s4]
 rw[e]at key
 exact key
end Go.Proofs.YtoakpnoajmngmaaGreatDoor.Sx
namespace Go.Proofs.YtoakpnoajmngmaaGreatDoor.Sx
open Go.RowKit
def Gg (mk:R->SV) (args:List SV):Option (List E × SV):=match args with
 |[.agg [.int .i64 r0,.int .i64 r1,.int .i64 r2,.int .i64 r3,.int .i64 r4,.osl k [.int .i64 _ _] len,.osl m [.int .i64 _ _] len']]=>if len.hi<=1000/\len'.hi<=1000/\(r0.in64&&r1.in64&&r2.in64&&r3.in64&&r4.in64)=true then some ([],mk ⟨.ap 66 (.cons r0.e (.cons r1.e (.cons r2.e (.cons r3.e (.cons r4.e (.cons (.c k) (.cons (.c m) .nil))))))),0,5⟩)else none
 |_=>none
section
variable {G:Nat->GD} {ρ:Env}
end
end Go.Proofs.YtoakpnoajmngmaaGreatDoor.Sx
namespace Go.Proofs.YtoakpnoajmngmaaGreatDoor.Sx
open Go.RowKit
theorem zdl {a B:Int} (h1: -(100*B)<=a) (h2:a<=100*B): -B<=Int.tdiv a 100/\Int.tdiv a 100<=B:=by
 rcases Int.le_total 0 a with h|h
 ·rw[Int.tdiv_eq_ediv_of_nonneg h];omega
 ·have e:Int.tdiv a 100= -((-a)/100):=by
   rw[show a= -(-a)by omega,Int.neg_tdiv,Int.tdiv_eq_ediv_of_nonneg (by omega),Int.neg_neg]
  rw[e];omega
end Go.Proofs.YtoakpnoajmngmaaGreatDoor.Sx
namespace Go.Proofs.YtoakpnoajmngmaaGreatDoor.Sx
open Go.ChangeShapes Go.WideShapes Go.ChangeAt Go.RowKit Go.Deep
inductive FK where
 |i|b|s (ks:List Bool)
 deriving DecidableEq
def FK.fits (w:World):FK->Option Value->Prop
 | .i,v=>∃y,v=some (.int .i64 y)/\B64 y
 | .b,v=>∃y,v=some (.bool y)
 | .s ks,v=>∃g:GD,v=some (.slice g.A g.n g.c)/\g.ok w/\g.ks=ks
def zmd:Nat->List FK->List FK
 |0,_=>[]
 |m+1,ks=>ks++zmd m ks
theorem zdm {ks:List FK}:∀ {m j:Nat} {k:FK},(zmd m ks)[j]? =some k->∃i j',i<m/\j=i*ks.length+j'/\ks[j']? =some k:=by
 intro m
 induction m with
 |zero=>intro j k h;simp[zmd]at h
 |succ m ih=>
  intro j k h
  rw[zmd,List.getElem?_append]at h
  split at h
  ·exact⟨0,j,Nat.zero_lt_succ _,by simp,h⟩
  ·obtain⟨i,j',h1,h2,h3⟩:=ih h
   exact⟨i+1,j',by omega,by rw[Nat.add_mul,Nat.one_mul];omega,h3⟩
def Gh (P:Program) (g:TypeId->Option (List FK)):List Field->Nat->Option (List FK)
 |[],_=>some []
 |f::l,acc=>match g f.type,Gh P g l (acc+P.cellsOf f.type)with
  |some ks,some r=>if f.offset=acc/\P.cellsOf f.type=ks.length then some (ks++r)else none
  |_,_=>none
def MT (P:Program):Nat->TypeId->Option (List FK)
 |0,_=>none
 |n+1,t=>match P.underlying t with
  |some (.int .i64)=>some [.i]
  |some .bool=>some [.b]
  |some (.slice e)=>match flatK P 10 e with
   |some ks=>if 0<ks.length/\P.cellsOf e=ks.length then some [.s ks]else none
   |none=>none
  |some (.struct fs)=>Gh P (MT P n) fs.toList 0
  |some (.array m e)=>match MT P n e with
   |some ks=>if P.cellsOf e=ks.length then some (zmd m ks)else none
   |none=>none
  |_=>none
theorem Vy {P:Program} {g:TypeId->Option (List FK)}:∀ {l:List Field} {acc:Nat} {K:List FK},Gh P g l acc=some K->∀(j:Nat) (k:FK),K[j]? =some k->∃(i:Nat) (f:Field) (ks:List FK) (j':Nat),l[i]? =some f/\g f.type=some ks/\P.cellsOf f.type=ks.length/\acc+j=f.offset+j'/\ks[j']? =some k:=by
 intro l
 induction l with
 |nil=>intro acc K h j k hk;cases h;simp at hk
 |cons f l ih=>
  intro acc K h j k hk
  simp only[Gh]at h
  split at h
  ·rename_i ks r h1 h2
   split at h
   ·rename_i hc
    cases h
    rw[List.getElem?_append]at hk
    split at hk
    ·exact⟨0,f,ks,j,rfl,h1,hc.2,by omega,hk⟩
    ·obtain⟨i,f',ks',j',a1,a2,a3,a4,a5⟩:=ih h2 _ _ hk
     exact⟨i+1,f',ks',j',a1,a2,a3,by omega,a5⟩
   ·cases h
  ·cases h
section
variable {H:Type} {enc:TypeId × Value->H} {P:Program} {w:World} {base:Nat} {spare:Nat->Bool} {held:Bool}
theorem zdn:∀ {n:Nat} {t:TypeId} {K:List FK},MT P n t=some K->∀(fuel:Nat) (cs:List Value) (x:DataW H × List MemPlace),DataW.trod enc P w base spare held fuel t cs=some x->∀(j:Nat) (k:FK),K[j]? =some k->k.fits w cs[j]? :=by
 intro n
 induction n with
 |zero=>intro t K h;cases h
 |succ n ih=>
  intro t K h fuel cs x hx j k hk
  simp only[MT]at h
  split at h
  ·rename_i hu
   cases h
   obtain⟨y,rfl,_,hw⟩:=DataW.trod_int hu hx
   match j,hk with
   |0,hk=>cases hk;exact⟨y,rfl,zeL hw⟩
  ·rename_i hu
   cases h
   obtain⟨y,rfl,_⟩:=DataW.trod_bool hu hx
   match j,hk with
   |0,hk=>cases hk;exact⟨y,rfl⟩
  ·rename_i e hu
   split at h
   ·rename_i ks hf
    split at h
    ·rename_i hc
     cases h
     obtain⟨g,rfl,h1,h2⟩:=zoE ks hc.1 hu hc.2 hf hx
     match j,hk with
     |0,hk=>cases hk;exact⟨g,rfl,h1,h2⟩
    ·cases h
   ·cases h
  ·rename_i fs hu
   obtain⟨i,f,ks,j',a1,a2,a3,a4,a5⟩:=Vy h j k hk
   obtain⟨xs,m,_,_,_,hl,hf⟩:=DataW.trod_struct hu hx
   rw[Array.getElem?_toList]at a1
   have h1:=hf i f a1
   have hil:i<fs.size:=(Array.getElem?_eq_some_iff.1 a1).1
   rw[List.getElem?_eq_getElem (show i<xs.length by omega)]at h1
   have h2:=ih a2 _ _ _ h1 j' k a5
   have hj:j'<ks.length:=(List.getElem?_eq_some_iff.1 a5).1
   rw[List.getElem?_take,if_pos (by omega),List.getElem?_drop,<-a4,Nat.zero_add]at h2
   exact h2
  ·rename_i m e hu
   split at h
   ·rename_i ks hks
    split at h
    ·rename_i hc
     cases h
     obtain⟨i,j',a1,a2,a3⟩:=zdm hk
     obtain⟨xs,m',_,_,_,hl,hf⟩:=DataW.trod_array hu hx
     have h1:=hf i a1
     rw[List.getElem?_eq_getElem (show i<xs.length by omega)]at h1
     have h2:=ih hks _ _ _ h1 j' k a3
     have hj:j'<ks.length:=(List.getElem?_eq_some_iff.1 a3).1
     rw[List.getElem?_take,if_pos (by omega),List.getElem?_drop,hc,<-a2]at h2
     exact h2
    ·cases h
   ·cases h
  ·cases h
end
def OkC (w:World) (K:List FK) (cs:List Value):Prop:=cs.length=K.length/\∀(j:Nat) (k:FK),K[j]? =some k->k.fits w cs[j]?
theorem OkC.cons {w:World} {k:FK} {K:List FK} {cs:List Value} (h:OkC w (k::K) cs):∃c cs',cs=c::cs'/\k.fits w (some c)/\OkC w K cs':=by
 obtain⟨h1,h2⟩:=h
 match cs,h1,h2 with
 |c::cs,h1,h2=>exact⟨c,cs,rfl,h2 0 k rfl,by simpa using h1,fun j k hk=>h2 (j+1) k hk⟩
theorem OkC.nil {w:World} {cs:List Value} (h:OkC w [] cs):cs=[]:=List.length_eq_zero_iff.1 h.1
theorem OkC.int {w:World} {K:List FK} {cs:List Value} (h:OkC w (.i::K) cs):∃y cs',cs= .int .i64 y::cs'/\B64 y/\OkC w K cs':=by
 obtain⟨c,cs',rfl,⟨y,h1,h2⟩,h3⟩:=h.cons
 cases h1
 exact⟨y,cs',rfl,h2,h3⟩
theorem OkC.bool {w:World} {K:List FK} {cs:List Value} (h:OkC w (.b::K) cs):∃y cs',cs= .bool y::cs'/\OkC w K cs':=by
 obtain⟨c,cs',rfl,⟨y,h1⟩,h3⟩:=h.cons
 cases h1
 exact⟨y,cs',rfl,h3⟩
theorem OkC.slice {w:World} {ks:List Bool} {K:List FK} {cs:List Value} (h:OkC w (.s ks::K) cs):∃(g:GD) (cs':List Value),cs= .slice g.A g.n g.c::cs'/\g.ok w/\g.ks=ks/\OkC w K cs':=by
 obtain⟨c,cs',rfl,⟨g,h1,h2,h4⟩,h3⟩:=h.cons
 cases h1
 exact⟨g,cs',rfl,h2,h4,h3⟩
theorem flatS_open {H:Type} {enc:TypeId × Value->H} {P:Program} {w:World} {base:Nat} {spare:Nat->Bool} {held:Bool} {t:TypeId} {v:Value} {d:DataW H} {p:List MemPlace} {K:List FK} (hK:MT P 10 t=some K) (hl:P.cellsOf t=K.length)
  (ha:(match P.underlying t with|some (.struct _)=>true|some (.array _ _)=>true|_=>false)=true) {r:Reach} {b0:Nat} (hv:Value.okWide P w r b0 t v) (h:DataW.Trod enc P w base spare held t v d p):∃cs:List Value,v= .agg cs.toArray/\OkC w K cs:=by
 have hv':∃cs:Array Value,v= .agg cs/\cs.size=P.cellsOf t:=by
  unfold Value.okWide at hv
  split at ha
  ·rename_i hu
   rw[hu]at hv
   obtain⟨cs,h1,h2,_⟩:=hv
   exact⟨cs,h1,h2⟩
  ·rename_i hu
   rw[hu]at hv
   obtain⟨cs,h1,h2,_⟩:=hv
   exact⟨cs,h1,h2⟩
  ·cases ha
 obtain⟨⟨cs⟩,rfl,hsz⟩:=hv'
 obtain⟨fu,hfu⟩:=h
 exact⟨cs,rfl,by rw[<-hl,<-hsz];rfl,fun j k hk=>zdn hK fu cs _ hfu j k hk⟩
end Go.Proofs.YtoakpnoajmngmaaGreatDoor.Sx
