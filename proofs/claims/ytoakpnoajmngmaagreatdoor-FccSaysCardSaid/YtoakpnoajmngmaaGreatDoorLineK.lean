import Derived.Test.YtoakpnoajmngmaaGreatDoorLineA
import Derived.Test.YtoakpnoajmngmaaGreatDoorProg
import Derived.Test.YtoakpnoajmngmaaGreatDoorWgPl
set_option linter.unusedVariables false
set_option linter.unusedSimpArgs false
namespace Go.Proofs.YtoakpnoajmngmaaGreatDoor.Sx
open Go.RowKit
def Mv (f:Nat->Int):Nat->Bool
 |0=>true
 |1=>true
 |n+2=>Mv f (n+1)&&decide (f n<=f (n+1))
def zX (f:Nat->Int):Nat->Bool
 |0=>true
 |n+1=>zX f n&&decide (0<=f n/\f n<=65536)
def zK (lo hi tu bu mo pl:Int) (ga:Bool):Int:=if(-100000<=lo/\lo<=100000)/\(-100000<=hi/\hi<=100000)/\(0<=tu/\tu<=1000)/\(0<=bu/\bu<=65536)/\(1<=mo/\mo<=4000)then(if hi<lo then 3 else if pl=0 then(if ga=true then 0 else 1)else pl)else 1
def lnF (G:Nat->GD) (id:Nat) (l:List Int):Int:=match id,l with
 |50,[n,d]=>Za n d
 |60,[k]=>z7 (G k.toNat).f (G k.toNat).n
 |61,[k]=>zR (G k.toNat).f (G k.toNat).n
 |62,[k,m]=>zC (G k.toNat).f (G k.toNat).n (G m.toNat).f (G m.toNat).n
 |63,[k,x]=>ppc (G k.toNat).f x ((G k.toNat).n-2) 0
 |66,[lo,hi,tu,bu,mo,k,m]=>zK lo hi tu bu mo (zC (G k.toNat).f (G k.toNat).n (G m.toNat).f (G m.toNat).n) (zX (G m.toNat).f (G m.toNat).n)
 |67,[a,b]=>ziy a b
 |64,[k,m,x]=>qa (G k.toNat).f (G m.toNat).f (G k.toNat).n x
 |_,_=>0
def lnB (G:Nat->GD) (id:Nat) (l:List Int):Bool:=match id,l with
 |65,[k,m]=>decide (zC (G k.toNat).f (G k.toNat).n (G m.toNat).f (G m.toNat).n=0)&&Mv (G m.toNat).f (G m.toNat).n
 |_,_=>false
def GD.none1:GD:=⟨Option.none,0,0,[true],fun _ _=>0,fun _ _=>false⟩
theorem GD.none1_ok (w:World):GD.none1.ok w:=⟨by decide,fun _ _ h=>absurd h (Nat.not_lt_zero _),fun _ _=>(by show B64 0;unfold B64;omega)⟩
def zfa (g:GD):Nat->GD:=fun k=>match k with|0=>g|_=>GD.none1
theorem gX {g:GD} {w:World} (o:g.ok w):∀k,(zfa g k).ok w:=fun k=>by
 match k with
 |0=>exact o
 |k+1=>exact GD.none1_ok w
theorem Qn {g:GD} (hk:g.ks=[true]):∀k,(zfa g k).ks=[true]:=fun k=>by
 match k with
 |0=>exact hk
 |k+1=>rfl
def jc (g h:GD):Nat->GD:=fun k=>match k with|0=>g|1=>h|_=>GD.none1
theorem zx {g h:GD} {w:World} (o:g.ok w) (o':h.ok w):∀k,(jc g h k).ok w:=fun k=>by
 match k with
 |0=>exact o
 |1=>exact o'
 |k+2=>exact GD.none1_ok w
theorem kP {g h:GD} (hk:g.ks=[true]) (hk':h.ks=[true]):∀k,(jc g h k).ks=[true]:=fun k=>by
 match k with
 |0=>exact hk
 |1=>exact hk'
 |k+2=>rfl
structure LOne (g:GD) (ρ:Env):Prop where
 std:Std lnF lnB (zfa g) ρ
 len:ρ.iv 4=g.n
 small:g.n<=1000
theorem LOne.same {g:GD} {ρ ρ':Env} (h:LOne g ρ) (hs:Same ρ ρ' [] []):LOne g ρ':=⟨h.std.same hs,(zz hs rfl).trans h.len,h.small⟩
theorem LOne.el {g:GD} {ρ:Env} (h:LOne g ρ) (i:Int):ρ.fn 1000 [i]=g.f i.toNat:=h.std.e (k:=0) (j:=0) rfl i
theorem gY {g:GD} {w:World} (o:g.ok w) (hk:g.ks=[true]) (hn:g.n<=1000) (x:Int) (b:Bd):∃ρ,LOne g ρ/\ρ.iv 5=x/\Mem ρ (· <w.heap.size) w/\(SV.osl 0 [.int .i64 (-9223372036854775808) 9223372036854775807] ⟨.v 4,0,1000⟩).ok ρ (· <0)/\(SV.osl 0 [.int .i64 (-9223372036854775808) 9223372036854775807] ⟨.v 4,0,1000⟩).den ρ b= .slice g.A g.n g.c:=by
 obtain⟨⟨q1,q2,q3,q4⟩,q5⟩:=yj (et:=44) (iv:=fun n=>match n with|4=>g.n|5=>x|_=>0) (bv:=fun _=>false) (fn:=lnF (zfa g)) (fb:=lnB (zfa g)) (fl:=fun _ _=>[]) (gX o) (k:=0) (m:=4) (sh:=[.int .i64 (-9223372036854775808) 9223372036854775807]) (by show g.ks.map vN=_;rw[hk];rfl) rfl (by show g.ks.length<=100;rw[hk];decide) (· <0) b
 exact⟨ja 44 (fun n=>match n with|4=>g.n|5=>x|_=>0) (fun _=>false) (lnF (zfa g)) (lnB (zfa g)) (fun _ _=>[]) (zfa g),⟨Std.gen () _ _ _,rfl,hn⟩,rfl,wQ (gX o),⟨⟨q1.1,by show(g.n:Int)<=1000;omega⟩,by decide,q3,q4⟩,q5⟩
def unP (id:Nat) (mk:R->SV) (args:List SV):Option (List E × SV):=match args with
 |[.osl k [.int .i64 _ _] len]=>if len.hi<=1000 then some ([],mk ⟨.ap id (.cons (.c k) .nil),0,5⟩)else none
 |_=>none
theorem XR {P:Program} {F:FuncId} {fn:(Nat->GD)->Nat->List Int->Int} {fb:(Nat->GD)->Nat->List Int->Bool} {G:Nat->GD} {ρ:Env} (h:Std fn fb G ρ) {w0:World} (hG:∀k,(G k).ok w0) (hks:∀k,(G k).ks=[true]) {id:Nat} (hid:Nat.blt id 1000=true) {mk:R->SV} {mv:Int->Value} {φ:GD->Int}
  (hφ:∀k,fn G id [k]=φ (G k.toNat)) (hb:∀g,0<=φ g/\φ g<=5) (hmk:∀r b,(mk r).den ρ b=mv (r.e.i ρ)) (hmo:∀r N,r.ok ρ->(mk r).ok ρ N)
  (hc:∀g w,g.ks=[true]->g.n<=1000->g.ok w->Calls P F #[.slice g.A g.n g.c] w fun e w'=>e= .returned (mv (φ g))/\Below w.heap.size w w'):HOK P ρ (zb F (unP id mk)):=by
 refine zo fun args gs v hp hg b base w N hok hm hbase=>?_
 unfold unP at hp
 split at hp
 ·rename_i k lo hi len
  split at hp
  ·rename_i hl
   cases hp
   obtain⟨h1,_⟩:=hok
   have hn:(G k).n<=1000:=by
    have e:=h1.2.2.2
    rw[h.ol]at e
    have:=h1.1.2
    simp only at e
    omega
   have e1:(SV.denL ρ b [.osl k [.int .i64 lo hi] len]).toArray=#[.slice (G k).A (G k).n (G k).c]:=by
    simp only[SV.denL]
    rw[h.slice h1]
   rw[e1]
   refine(hc (G k) w (hks k) hn (h.row hG hm hbase k)).mono ?_
   rintro e w' ⟨h2,h3⟩
   have e2:(E.ap id (.cons (.c k) .nil)).i ρ=φ (G k):=by
    simp only[E.i,E.l]
    rw[h.f hid,hφ,Int.toNat_natCast]
   refine⟨by rw[h2,hmk,e2],hmo _ _ ?_,h3⟩
   unfold R.ok
   rw[e2]
   exact hb (G k)
  ·cases hp
 ·cases hp
theorem yq (f:Nat->Int) (n:Nat):0<=z7 f n/\z7 f n<=5:=by
 by_cases h:∀k,k<n-> -1000000<=f k/\f k<=1000000
 ·rw[kC h];omega
 ·obtain⟨k,hk⟩:=Classical.not_forall.1 h
  obtain⟨hk,hx⟩:=Classical.not_imp.1 hk
  rw[vq hk hx];omega
def Mw:zl:=zb 167 (unP 60 .err)
def Mx:zl:=zb 132 (unP 60 (.int .i64))
theorem My {G:Nat->GD} {ρ:Env} (h:Std lnF lnB G ρ) {w0:World} (hG:∀k,(G k).ok w0) (hks:∀k,(G k).ks=[true]):HOK Tryz.prog ρ Mw:=
 XR h hG hks rfl (mv:=qp) (φ:=fun g=>z7 g.f g.n) (fun k=>rfl) (fun g=>yq _ _) (fun r b=>k8 ρ h.et r b) (fun r N hr=>hr) fun g w hk hn o=>Vq g hk hn w o
theorem Mz {G:Nat->GD} {ρ:Env} (h:Std lnF lnB G ρ) {w0:World} (hG:∀k,(G k).ok w0) (hks:∀k,(G k).ks=[true]):HOK Tryz.prog ρ Mx:=
 XR h hG hks rfl (mv:=fun z=> .int .i64 z) (φ:=fun g=>z7 g.f g.n) (fun k=>rfl) (fun g=>yq _ _) (fun r b=>rfl) (fun r N hr=>hr) fun g w hk hn o=>zco g hk hn w o
end Go.Proofs.YtoakpnoajmngmaaGreatDoor.Sx
namespace Go.Proofs.YtoakpnoajmngmaaGreatDoor.Sx
def Qo:List (Nat × List (Nat × List Nat)):=[(166,[(0,[0]),(1,[0,7]),(2,[2]),(3,[0,11]),(4,[2]),(5,[0,3]),(6,[0,3,16]),(7,[2]),(8,[0,4]),(9,[0,4,21]),(10,[0,4]),(11,[0,4,33]),(12,[2]),(13,[2])]),
 (167,[(0,[0]),(1,[5,6,7]),(2,[5,6,7,8]),(3,[4,5,6,7]),(4,[5,6,7,16]),(5,[2]),(6,[5,6,7]),(7,[2])])]
def XS:List SV:=[.osl 0 [.int .i64 (-9223372036854775808) 9223372036854775807] ⟨(.v 4),0,1000⟩]
def zlC:St:=⟨[(4,⟨[],.int .i64 ⟨(.v 13),1,8⟩⟩),(0,⟨[],.osl 0 [.int .i64 (-9223372036854775808) 9223372036854775807] ⟨(.v 4),2,8⟩⟩)],[],0,35⟩
def zqz:List LS:=[⟨[(.bin .lt (.v 4) (.c 2))],.ret,⟨[(2,⟨[],.ifc 44 (.int .i64 ⟨(.c 3),3,3⟩)⟩)],[],0,35⟩,⟨[],[]⟩⟩,
 ⟨[(.bin .lt (.c 8) (.v 4)),(.bin .le (.c 2) (.v 4))],.ret,⟨[(2,⟨[],.ifc 44 (.int .i64 ⟨(.c 2),2,2⟩)⟩)],[],0,35⟩,⟨[],[]⟩⟩,
 ⟨[(.un .not (.bin .eq (.ap 60 (.cons (.c 0) .nil)) (.c 0))),(.bin .le (.v 4) (.c 8)),(.bin .le (.c 2) (.v 4))],.ret,⟨[(2,⟨[],.ifc 44 (.int .i64 ⟨(.v 900),1,5⟩)⟩)],[],0,35⟩,⟨[(900,(.ap 60 (.cons (.c 0) .nil)))],[]⟩⟩,
 ⟨[(.bin .eq (.ap 60 (.cons (.c 0) .nil)) (.c 0)),(.bin .le (.v 4) (.c 8)),(.bin .le (.c 2) (.v 4))],.normal,zlC,⟨[(13,(.c 1))],[]⟩⟩]
def zpV:List VC:=[]
theorem zg9:ran (ya Tryz.prog 44 (qb Mw Qo 50 12) 166 (qG Tryz.prog 166 0 9) (start Tryz.prog 166 XS [] 0)) zqz zpV=true:=by kernel_rfl
def zn4:List VC:=[]
theorem zcp:qL zpV [] []=zn4:=by kernel_rfl
theorem zlD:zn4.all VC.isNo=true:=by kernel_rfl
theorem zn5 (ρ:Env):ye ρ zn4=(True):=by kernel_rfl
theorem zcq (ρ:Env):kJ ρ [(.bin .lt (.v 4) (.c 2))]=((decide ((ρ.iv 4)<(2:Int)))=true/\True):=by kernel_rfl
theorem zcr (ρ:Env):kJ ρ [(.bin .lt (.c 8) (.v 4)),(.bin .le (.c 2) (.v 4))]=((decide ((8:Int)<(ρ.iv 4)))=true/\(decide ((2:Int)<=(ρ.iv 4)))=true/\True):=by kernel_rfl
theorem zcs (ρ:Env):kJ ρ [(.un .not (.bin .eq (.ap 60 (.cons (.c 0) .nil)) (.c 0))),(.bin .le (.v 4) (.c 8)),(.bin .le (.c 2) (.v 4))]=((!(decide ((ρ.fn 60 ((0:Int)::[]))=(0:Int))))=true/\(decide ((ρ.iv 4)<=(8:Int)))=true/\(decide ((2:Int)<=(ρ.iv 4)))=true/\True):=by kernel_rfl
theorem zct (ρ:Env):kJ ρ [(.bin .eq (.ap 60 (.cons (.c 0) .nil)) (.c 0)),(.bin .le (.v 4) (.c 8)),(.bin .le (.c 2) (.v 4))]=((decide ((ρ.fn 60 ((0:Int)::[]))=(0:Int)))=true/\(decide ((ρ.iv 4)<=(8:Int)))=true/\(decide ((2:Int)<=(ρ.iv 4)))=true/\True):=by kernel_rfl
def zqA:List LS:=[⟨[(.bin .le (.ap 1000 (.cons (.v 13) .nil)) (.ap 1000 (.cons (.bin .sub (.v 13) (.c 1)) .nil))),(.bin .lt (.v 13) (.v 4))],.ret,⟨[(2,⟨[],.ifc 44 (.int .i64 ⟨(.c 3),3,3⟩)⟩)],[],0,35⟩,⟨[],[]⟩⟩,
 ⟨[(.bin .lt (.ap 1000 (.cons (.bin .sub (.v 13) (.c 1)) .nil)) (.ap 1000 (.cons (.v 13) .nil))),(.bin .lt (.v 13) (.v 4))],.normal,zlC,⟨[(13,(.bin .add (.v 13) (.c 1)))],[]⟩⟩,
 ⟨[(.bin .le (.v 4) (.v 13))],(.exit 0),zlC,⟨[],[]⟩⟩]
def zpW:List VC:=[⟨[(pT (.v 13) (.v 4))],(pT (pS (.v 13) (.c 1)) (.v 4))⟩]
theorem zha:ran (ya Tryz.prog 44 (qb Mw Qo 50 12) 166 (k9 Tryz.prog 166 9) zlC) zqA zpW=true:=by kernel_rfl
def zn6:List VC:=[⟨[(pT (.v 13) (.v 4))],(pT (pS (.v 13) (.c 1)) (.v 4))⟩]
theorem zcu:qL zpW [] []=zn6:=by kernel_rfl
theorem zlE:zn6.all VC.isNo=true:=by kernel_rfl
theorem zn7 (ρ:Env):ye ρ zn6=(((decide ((ρ.iv 13)<(ρ.iv 4)))=true/\True->(decide (((ρ.iv 13)-(1:Int))<(ρ.iv 4)))=true)/\True):=by kernel_rfl
theorem zcv (ρ:Env):kJ ρ [(.bin .le (.ap 1000 (.cons (.v 13) .nil)) (.ap 1000 (.cons (.bin .sub (.v 13) (.c 1)) .nil))),(.bin .lt (.v 13) (.v 4))]=((decide ((ρ.fn 1000 ((ρ.iv 13)::[]))<=(ρ.fn 1000 (((ρ.iv 13)-(1:Int))::[]))))=true/\(decide ((ρ.iv 13)<(ρ.iv 4)))=true/\True):=by kernel_rfl
theorem zcw (ρ:Env):kJ ρ [(.bin .lt (.ap 1000 (.cons (.bin .sub (.v 13) (.c 1)) .nil)) (.ap 1000 (.cons (.v 13) .nil))),(.bin .lt (.v 13) (.v 4))]=((decide ((ρ.fn 1000 (((ρ.iv 13)-(1:Int))::[]))<(ρ.fn 1000 ((ρ.iv 13)::[]))))=true/\(decide ((ρ.iv 13)<(ρ.iv 4)))=true/\True):=by kernel_rfl
theorem zcx (ρ:Env):kJ ρ [(.bin .le (.v 4) (.v 13))]=((decide ((ρ.iv 4)<=(ρ.iv 13)))=true/\True):=by kernel_rfl
def zqB:List LS:=[⟨[],.ret,⟨[(2,⟨[],.nili⟩)],[],0,35⟩,⟨[],[]⟩⟩]
def zpX:List VC:=[]
theorem zhb:ran (ya Tryz.prog 44 (qb Mw Qo 50 12) 166 (qG Tryz.prog 166 10 12) zlC) zqB zpX=true:=by kernel_rfl
def zn8:List VC:=[]
theorem zcy:qL zpX [] []=zn8:=by kernel_rfl
theorem zlF:zn8.all VC.isNo=true:=by kernel_rfl
theorem zn9 (ρ:Env):ye ρ zn8=(True):=by kernel_rfl
def Qp:List (Nat × List (Nat × List Nat)):=[(169,[(0,[0,1]),(1,[0,1,5]),(2,[0,1,5,19]),(3,[0,1,5]),(4,[4])])]
def XT:List SV:=[.osl 0 [.int .i64 (-9223372036854775808) 9223372036854775807] ⟨(.v 4),0,1000⟩,.int .i64 ⟨(.v 5),(-9223372036854775808),9223372036854775807⟩]
def zlG:St:=⟨[(5,⟨[],.int .i64 ⟨(.v 13),0,1000⟩⟩),(0,⟨[],.osl 0 [.int .i64 (-9223372036854775808) 9223372036854775807] ⟨(.v 4),0,1000⟩⟩),(1,⟨[],.int .i64 ⟨(.v 5),(-9223372036854775808),9223372036854775807⟩⟩)],[],0,23⟩
def zqC:List LS:=[⟨[],.normal,zlG,⟨[(13,(.c 0))],[]⟩⟩]
def zpY:List VC:=[]
theorem zhc:ran (ya Tryz.prog 44 (qb jS Qp 50 12) 169 (qG Tryz.prog 169 0 2) (start Tryz.prog 169 XT [] 0)) zqC zpY=true:=by kernel_rfl
def zoa:List VC:=[]
theorem zcz:qL zpY [] []=zoa:=by kernel_rfl
theorem zlH:zoa.all VC.isNo=true:=by kernel_rfl
theorem zob (ρ:Env):ye ρ zoa=(True):=by kernel_rfl
def zqD:List LS:=[⟨[(.bin .and (.bin .lt (.bin .add (.v 13) (.c 2)) (.v 4)) (.bin .le (.ap 1000 (.cons (.bin .add (.v 13) (.c 1)) .nil)) (.v 5)))],.normal,zlG,⟨[(13,(.bin .add (.v 13) (.c 1)))],[]⟩⟩,
 ⟨[(.un .not (.bin .and (.bin .lt (.bin .add (.v 13) (.c 2)) (.v 4)) (.bin .le (.ap 1000 (.cons (.bin .add (.v 13) (.c 1)) .nil)) (.v 5))))],(.exit 0),zlG,⟨[],[]⟩⟩]
def zpZ:List VC:=[⟨[(pT (pA (.v 13) (.c 2)) (.v 4))],(pT (pA (.v 13) (.c 1)) (.v 4))⟩]
theorem zhd:ran (ya Tryz.prog 44 (qb jS Qp 50 12) 169 (k9 Tryz.prog 169 2) zlG) zqD zpZ=true:=by kernel_rfl
def zoc:List VC:=[⟨[(pT (pA (.v 13) (.c 2)) (.v 4))],(pT (pA (.v 13) (.c 1)) (.v 4))⟩]
theorem zcA:qL zpZ [] []=zoc:=by kernel_rfl
theorem zlI:zoc.all VC.isNo=true:=by kernel_rfl
theorem zod (ρ:Env):ye ρ zoc=(((decide (((ρ.iv 13)+(2:Int))<(ρ.iv 4)))=true/\True->(decide (((ρ.iv 13)+(1:Int))<(ρ.iv 4)))=true)/\True):=by kernel_rfl
theorem zcB (ρ:Env):kJ ρ [(.bin .and (.bin .lt (.bin .add (.v 13) (.c 2)) (.v 4)) (.bin .le (.ap 1000 (.cons (.bin .add (.v 13) (.c 1)) .nil)) (.v 5)))]=(((decide (((ρ.iv 13)+(2:Int))<(ρ.iv 4)))&&(decide ((ρ.fn 1000 (((ρ.iv 13)+(1:Int))::[]))<=(ρ.iv 5))))=true/\True):=by kernel_rfl
theorem zcC (ρ:Env):kJ ρ [(.un .not (.bin .and (.bin .lt (.bin .add (.v 13) (.c 2)) (.v 4)) (.bin .le (.ap 1000 (.cons (.bin .add (.v 13) (.c 1)) .nil)) (.v 5))))]=((!((decide (((ρ.iv 13)+(2:Int))<(ρ.iv 4)))&&(decide ((ρ.fn 1000 (((ρ.iv 13)+(1:Int))::[]))<=(ρ.iv 5)))))=true/\True):=by kernel_rfl
def zqE:List LS:=[⟨[],.ret,⟨[(4,⟨[],.int .i64 ⟨(.v 900),0,1000⟩⟩)],[],0,23⟩,⟨[(900,(.v 13))],[]⟩⟩]
def zp0:List VC:=[]
theorem zhe:ran (ya Tryz.prog 44 (qb jS Qp 50 12) 169 (qG Tryz.prog 169 3 5) zlG) zqE zp0=true:=by kernel_rfl
def zoe:List VC:=[]
theorem zcD:qL zp0 [] []=zoe:=by kernel_rfl
theorem zlJ:zoe.all VC.isNo=true:=by kernel_rfl
theorem zof (ρ:Env):ye ρ zoe=(True):=by kernel_rfl
def Qq:List (Nat × List (Nat × List Nat)):=[(8,[(0,[0,1]),(1,[1,5]),(2,[4]),(3,[4])]),
 (7,[(0,[0]),(1,[0,3]),(2,[0,3,7]),(3,[0,3]),(4,[0,3,14]),(5,[2]),(6,[2])]),
 (20,[(0,[0,1,2]),(1,[6])]),
 (131,[(0,[0]),(1,[0,3]),(2,[0,3,4]),(3,[0,3,4,8]),(4,[0,3,4]),(5,[0,3,4]),(6,[2])]),
 (132,[(0,[0]),(1,[0,3]),(2,[0,3,7]),(3,[0,3]),(4,[0,3,15]),(5,[2]),(6,[2])])]
def XU:List SV:=[.osl 0 [.int .i64 (-9223372036854775808) 9223372036854775807] ⟨(.v 4),0,1000⟩]
def zlK:St:=⟨[(4,⟨[],.int .i64 ⟨(.v 13),1,1000⟩⟩),(3,⟨[],.bool (.bv 13)⟩),(0,⟨[],.osl 0 [.int .i64 (-9223372036854775808) 9223372036854775807] ⟨(.v 4),0,1000⟩⟩)],[],0,38⟩
def zqF:List LS:=[⟨[],.normal,zlK,⟨[(13,(.c 1))],[(13,(.bc false))]⟩⟩]
def zp1:List VC:=[]
theorem zhf:ran (ya Tryz.prog 44 (qb Mx Qq 50 12) 131 (qG Tryz.prog 131 0 3) (start Tryz.prog 131 XU [] 0)) zqF zp1=true:=by kernel_rfl
def zog:List VC:=[]
theorem zcE:qL zp1 [] []=zog:=by kernel_rfl
theorem zlL:zog.all VC.isNo=true:=by kernel_rfl
theorem zoh (ρ:Env):ye ρ zog=(True):=by kernel_rfl
def zqG:List LS:=[⟨[(.bin .lt (.v 13) (.v 4))],.normal,zlK,⟨[(13,(.bin .add (.v 13) (.c 1)))],[(13,(.bin .or (.bv 13) (.bin .le (.ap 1000 (.cons (.v 13) .nil)) (.ap 1000 (.cons (.bin .sub (.v 13) (.c 1)) .nil)))))]⟩⟩,
 ⟨[(.bin .le (.v 4) (.v 13))],(.exit 0),zlK,⟨[],[]⟩⟩]
def zp2:List VC:=[⟨[(pU (.bv 13)),(pT (.v 13) (.v 4))],(pT (pS (.v 13) (.c 1)) (.v 4))⟩]
theorem zhg:ran (ya Tryz.prog 44 (qb Mx Qq 50 12) 131 (k9 Tryz.prog 131 3) zlK) zqG zp2=true:=by kernel_rfl
def zoi:List VC:=[⟨[(pU (.bv 13)),(pT (.v 13) (.v 4))],(pT (pS (.v 13) (.c 1)) (.v 4))⟩]
theorem zcF:qL zp2 [] []=zoi:=by kernel_rfl
theorem zlM:zoi.all VC.isNo=true:=by kernel_rfl
theorem zoj (ρ:Env):ye ρ zoi=(((!(ρ.bv 13))=true/\(decide ((ρ.iv 13)<(ρ.iv 4)))=true/\True->(decide (((ρ.iv 13)-(1:Int))<(ρ.iv 4)))=true)/\True):=by kernel_rfl
theorem zcG (ρ:Env):kJ ρ [(.bin .lt (.v 13) (.v 4))]=((decide ((ρ.iv 13)<(ρ.iv 4)))=true/\True):=by kernel_rfl
theorem zcH (ρ:Env):kJ ρ [(.bin .le (.v 4) (.v 13))]=((decide ((ρ.iv 4)<=(ρ.iv 13)))=true/\True):=by kernel_rfl
def zqH:List LS:=[⟨[],.ret,⟨[(2,⟨[],.int .i64 ⟨(.v 900),0,5⟩⟩)],[],0,38⟩,⟨[(900,(.v 792717386363595369))],[]⟩⟩]
def zok:List VC:=[qN 792717386363595369 (.ite (pU (pQ (.ite (pT (.v 4) (.c 2)) (.c 3) (.c 0)) (.c 0))) (.ite (pT (.v 4) (.c 2)) (.c 3) (.c 0)) (.ite (pU (pQ (.ite (pT (.c 8) (.v 4)) (.c 2) (.c 0)) (.c 0))) (.ite (pT (.c 8) (.v 4)) (.c 2) (.c 0)) (.ite (pU (pQ (.ap 60 (.cons (.c 0) .nil)) (.c 0))) (.ap 60 (.cons (.c 0) .nil)) (.ite (pU (pQ (.ite (.bv 13) (.c 3) (.c 0)) (.c 0))) (.ite (.bv 13) (.c 3) (.c 0)) (.c 0))))),
 qN 1254926496911674763 (.ite (pU (pQ (.ite (pT (.v 4) (.c 2)) (.c 3) (.c 0)) (.c 0))) (.ite (pT (.v 4) (.c 2)) (.c 3) (.c 0)) (.c 0)),
 qN 1939292464196008097 (.ite (pU (pQ (.ite (pT (.v 4) (.c 2)) (.c 3) (.c 0)) (.c 0))) (.ite (pT (.c 8) (.v 4)) (.c 2) (.c 0)) (.ite (pU (pQ (.ite (pT (.c 8) (.v 4)) (.c 2) (.c 0)) (.c 0))) (.ite (pT (.c 8) (.v 4)) (.c 2) (.c 0)) (.c 0))),
 qN 268090355289226090 (.ite (pU (pQ (.ite (pT (.v 4) (.c 2)) (.c 3) (.c 0)) (.c 0))) (.ap 60 (.cons (.c 0) .nil)) (.ite (pU (pQ (.ite (pT (.c 8) (.v 4)) (.c 2) (.c 0)) (.c 0))) (.ap 60 (.cons (.c 0) .nil)) (.ite (pU (pQ (.ap 60 (.cons (.c 0) .nil)) (.c 0))) (.ap 60 (.cons (.c 0) .nil)) (.c 0)))),
 qN 11027763218830584 (.ite (pU (pQ (.ite (pT (.v 4) (.c 2)) (.c 3) (.c 0)) (.c 0))) (.ite (.bv 13) (.c 3) (.c 0)) (.ite (pU (pQ (.ite (pT (.c 8) (.v 4)) (.c 2) (.c 0)) (.c 0))) (.ite (.bv 13) (.c 3) (.c 0)) (.ite (pU (pQ (.ap 60 (.cons (.c 0) .nil)) (.c 0))) (.ite (.bv 13) (.c 3) (.c 0)) (.ite (pU (pQ (.ite (.bv 13) (.c 3) (.c 0)) (.c 0))) (.ite (.bv 13) (.c 3) (.c 0)) (.c 0)))))]
theorem zhh:ran (ya Tryz.prog 44 (qb Mx Qq 50 12) 131 (qG Tryz.prog 131 4 6) zlK) zqH zok=true:=by kernel_rfl
def zol:List VC:=[]
theorem zcI:qL zok [] []=zol:=by kernel_rfl
theorem zlN:zol.all VC.isNo=true:=by kernel_rfl
theorem zom (ρ:Env):ye ρ zol=(True):=by kernel_rfl
theorem zcJ (ρ:Env):qA ρ zok=(ρ.iv 792717386363595369=(if(!(decide ((if(decide ((ρ.iv 4)<(2:Int)))=true then(3:Int)else(0:Int))=(0:Int))))=true then(if(decide ((ρ.iv 4)<(2:Int)))=true then(3:Int)else(0:Int))else(if(!(decide ((if(decide ((8:Int)<(ρ.iv 4)))=true then(2:Int)else(0:Int))=(0:Int))))=true then(if(decide ((8:Int)<(ρ.iv 4)))=true then(2:Int)else(0:Int))else(if(!(decide ((ρ.fn 60 ((0:Int)::[]))=(0:Int))))=true then(ρ.fn 60 ((0:Int)::[]))else(if(!(decide ((if(ρ.bv 13)=true then(3:Int)else(0:Int))=(0:Int))))=true then(if(ρ.bv 13)=true then(3:Int)else(0:Int))else(0:Int)))))/\
 ρ.iv 1254926496911674763=(if(!(decide ((if(decide ((ρ.iv 4)<(2:Int)))=true then(3:Int)else(0:Int))=(0:Int))))=true then(if(decide ((ρ.iv 4)<(2:Int)))=true then(3:Int)else(0:Int))else(0:Int))/\
 ρ.iv 1939292464196008097=(if(!(decide ((if(decide ((ρ.iv 4)<(2:Int)))=true then(3:Int)else(0:Int))=(0:Int))))=true then(if(decide ((8:Int)<(ρ.iv 4)))=true then(2:Int)else(0:Int))else(if(!(decide ((if(decide ((8:Int)<(ρ.iv 4)))=true then(2:Int)else(0:Int))=(0:Int))))=true then(if(decide ((8:Int)<(ρ.iv 4)))=true then(2:Int)else(0:Int))else(0:Int)))/\
 ρ.iv 268090355289226090=(if(!(decide ((if(decide ((ρ.iv 4)<(2:Int)))=true then(3:Int)else(0:Int))=(0:Int))))=true then(ρ.fn 60 ((0:Int)::[]))else(if(!(decide ((if(decide ((8:Int)<(ρ.iv 4)))=true then(2:Int)else(0:Int))=(0:Int))))=true then(ρ.fn 60 ((0:Int)::[]))else(if(!(decide ((ρ.fn 60 ((0:Int)::[]))=(0:Int))))=true then(ρ.fn 60 ((0:Int)::[]))else(0:Int))))/\
 ρ.iv 11027763218830584=(if(!(decide ((if(decide ((ρ.iv 4)<(2:Int)))=true then(3:Int)else(0:Int))=(0:Int))))=true then(if(ρ.bv 13)=true then(3:Int)else(0:Int))else(if(!(decide ((if(decide ((8:Int)<(ρ.iv 4)))=true then(2:Int)else(0:Int))=(0:Int))))=true then(if(ρ.bv 13)=true then(3:Int)else(0:Int))else(if(!(decide ((ρ.fn 60 ((0:Int)::[]))=(0:Int))))=true then(if(ρ.bv 13)=true then(3:Int)else(0:Int))else(if(!(decide ((if(ρ.bv 13)=true then(3:Int)else(0:Int))=(0:Int))))=true then(if(ρ.bv 13)=true then(3:Int)else(0:Int))else(0:Int)))))/\
 True):=by kernel_rfl
end Go.Proofs.YtoakpnoajmngmaaGreatDoor.Sx
namespace Go.Proofs.YtoakpnoajmngmaaGreatDoor.Sx
open Go.RowKit
structure RiseI (g:GD) (ρ:Env):Prop where
 one:LOne g ρ
 lo:1<=ρ.iv 13
 hi:ρ.iv 13<=g.n
 n2:2<=g.n
 n8:g.n<=8
 w:jO g.f g.n
 all:js g.f (ρ.iv 13).toNat
structure RiseI2 (g:GD) (ρ:Env):Prop where
 i:RiseI g ρ
 all:js g.f g.n
theorem RiseI.same {g:GD} {ρ ρ':Env} (h:RiseI g ρ) (hs:Same ρ ρ' [] []):RiseI g ρ'/\(g.n-ρ'.iv 13).toNat=(g.n-ρ.iv 13).toNat:=by
 have e:=zz hs (n:=13) rfl
 exact⟨⟨h.one.same hs,by rw[e];exact h.lo,by rw[e];exact h.hi,h.n2,h.n8,h.w,by rw[e];exact h.all⟩,by rw[e]⟩
theorem MA {f:Nat->Int} {i:Int} (h1:1<=i) (h:js f i.toNat) (c:f (i-1).toNat<f i.toNat):js f (i+1).toNat:=by
 intro k hk
 by_cases hk':k+1<i.toNat
 ·exact h k hk'
 ·have e1:(i-1).toNat=k:=by omega
  have e2:i.toNat=k+1:=by omega
  rw[e1,e2]at c
  exact c
structure PieceI (g:GD) (x:Int) (ρ:Env):Prop where
 one:LOne g ρ
 ex:ρ.iv 5=x
 lo:0<=ρ.iv 13
 hi:ρ.iv 13<=1000
 at_:ppc g.f x (g.n-2) 0=ppc g.f x (g.n-2-(ρ.iv 13).toNat) (ρ.iv 13).toNat
 n:ρ.iv 13+2<=g.n\/ρ.iv 13=0
structure PieceI2 (g:GD) (x:Int) (ρ:Env):Prop where
 i:PieceI g x ρ
 end_:ppc g.f x (g.n-2) 0=(ρ.iv 13).toNat
theorem PieceI.same {g:GD} {x:Int} {ρ ρ':Env} (h:PieceI g x ρ) (hs:Same ρ ρ' [] []):PieceI g x ρ'/\(1000-ρ'.iv 13).toNat=(1000-ρ.iv 13).toNat:=by
 have e:=zz hs (n:=13) rfl
 exact⟨⟨h.one.same hs,(zz hs (n:=5) rfl).trans h.ex,by rw[e];exact h.lo,by rw[e];exact h.hi,by rw[e];exact h.at_,by rw[e];exact h.n⟩,by rw[e]⟩
structure RRiseI (g:GD) (ρ:Env):Prop where
 one:LOne g ρ
 lo:1<=ρ.iv 13
 hi:ρ.iv 13<=g.n\/ρ.iv 13=1
 all:ρ.bv 13=true↔kX g.f (ρ.iv 13).toNat=3
structure RRiseI2 (g:GD) (ρ:Env):Prop where
 i:RRiseI g ρ
 all:ρ.bv 13=true↔kX g.f g.n=3
theorem RRiseI.same {g:GD} {ρ ρ':Env} (h:RRiseI g ρ) (hs:Same ρ ρ' [] []):RRiseI g ρ'/\(g.n-ρ'.iv 13).toNat=(g.n-ρ.iv 13).toNat:=by
 have e:=zz hs (n:=13) rfl
 have e':=Z9 hs (n:=13) rfl
 exact⟨⟨h.one.same hs,by rw[e];exact h.lo,by rw[e];exact h.hi,by rw[e,e'];exact h.all⟩,by rw[e]⟩
structure LOneX (g:GD) (x:Int) (ρ:Env):Prop where
 one:LOne g ρ
 x:ρ.iv 5=x
theorem LOneX.same {g:GD} {x:Int} {ρ ρ':Env} (h:LOneX g x ρ) (hs:Same ρ ρ' [] []):LOneX g x ρ':=⟨h.one.same hs,(zz hs (n:=5) rfl).trans h.x⟩
theorem zcK {f:Nat->Int} {x:Int} {d i:Nat} (c:f (i+1)<=x):ppc f x (d+1) i=ppc f x d (i+1):=if_pos c
theorem zcL {f:Nat->Int} {x:Int} {i:Nat}:ppc f x 0 i=i:=rfl
theorem zcM {f:Nat->Int} {x:Int} {i:Nat} (c:¬f (i+1)<=x) (d:Nat):ppc f x d i=i:=by
 cases d with
 |zero=>rfl
 |succ d=>exact if_neg c
theorem Vr (f:Nat->Int) (n:Nat):kX f (n+2)=3↔(kX f (n+1)=3\/f (n+1)<=f n):=by
 show por (kX f (n+1)) (if f n<f (n+1)then 0 else 3)=3↔_
 rcases yI f (n+1)with h|h<;>rw[h]<;>unfold por<;>by_cases c:f n<f (n+1)<;>simp[c]<;>omega
theorem kn (f:Nat->Int) (n:Nat):0<=zR f n/\zR f n<=5:=by
 unfold zR por
 have h:=yq f n
 rcases yI f n with h2|h2<;>rw[h2]<;>split<;>(try split)<;>(try split)<;>omega
theorem MB {f:Nat->Int} {n:Nat} (h:n<2):zR f n=3:=by unfold zR;rw[if_pos h]
theorem MC {f:Nat->Int} {n:Nat} (h:8<n):zR f n=2:=by unfold zR;rw[if_neg (by omega),if_pos h]
theorem MD {f:Nat->Int} {n:Nat} (h1:2<=n) (h2:n<=8) (hw:¬z7 f n=0):zR f n=z7 f n:=by unfold zR por;rw[if_neg (by omega),if_neg (by omega),if_neg hw]
theorem JI {f:Nat->Int} {n:Nat} (h1:2<=n) (h2:n<=8) (hw:z7 f n=0):zR f n=kX f n:=by unfold zR por;rw[if_neg (by omega),if_neg (by omega),if_pos hw]
set_option maxRecDepth 100000 in
set_option maxHeartbeats 1000000 in
theorem Yg (g:GD) (hk:g.ks=[true]) (hn:g.n<=1000) (w:World) (o:g.ok w):
  Calls Tryz.prog 166 #[.slice g.A g.n g.c] w fun e w'=>e= .returned (qp (zR g.f g.n))/\Below w.heap.size w w':=by
 obtain⟨ρ0,h0,_,hm,s1,s2⟩:=gY o hk hn 0 ⟨fun _=>0,fun _=>0,fun _=>0⟩
 have key:=jh (P:=Tryz.prog) (cfg:=qb Mw Qo 50 12) Tryz.func166 rfl (k:=9) (i:=0) (n:=12) (by decide+kernel) (by kernel_rfl) (args:=XS) (H:=[]) (nx:=0) zg9 zcp zlD zha zcu zlE zhb zcy zlF (V:=qp (zR g.f g.n)) (LOne g) (RiseI g) (RiseI2 g) (fun ρ=>(g.n-ρ.iv 13).toNat)
  (fun ρ h=>⟨h.std.et,My h.std (gX o) (Qn hk)⟩) (fun ρ h=>⟨h.one.std.et,My h.one.std (gX o) (Qn hk)⟩) (fun ρ ρ' h hs=>h.same hs) (fun ρ ρ' h hs=>h.same hs) (fun ρ h=>h.i) (fun ρ ρ' h hs=>⟨(h.i.same hs).1,h.all⟩) (by kernel_rfl)
  (fun ρ h=>by
   have h1:=h.len
   have h2:=h.small
   refine List.forall_mem_cons.2 ⟨?_,fun _ h=>nomatch h⟩
   ·exact zg (z:=ρ.iv 4) rfl (by show(0:Int)<=ρ.iv 4;omega) (by show ρ.iv 4<=1000;omega))
  (fun ρ h=>by
   have h1:=h.lo
   have h2:=h.hi
   have h3:=h.one.len
   have h4:=h.n2
   have h5:=h.n8
   refine List.forall_mem_cons.2 ⟨?_,List.forall_mem_cons.2 ⟨?_,fun _ h=>nomatch h⟩⟩
   ·exact zg (z:=ρ.iv 13) rfl (by show(1:Int)<=ρ.iv 13;omega) (by show ρ.iv 13<=8;omega)
   ·exact zg (z:=ρ.iv 4) rfl (by show(2:Int)<=ρ.iv 4;omega) (by show ρ.iv 4<=8;omega))
  (fun ρ h hv=>Eq.mpr (zn5 ρ) (by
   trivial))
  (fun ρ h hv=>Eq.mpr (zn7 ρ) (by
   have h1:=h.lo
   have h2:=h.hi
   have h3:=h.one.len
   refine⟨fun⟨c,_⟩=>?_,trivial⟩
   have c:=of_decide_eq_true c
   exact decide_eq_true (by omega)))
  (fun ρ h hv=>Eq.mpr (zn9 ρ) (by
   trivial))
  (by
   refine List.forall_mem_cons.2 ⟨?_,List.forall_mem_cons.2 ⟨?_,List.forall_mem_cons.2 ⟨?_,List.forall_mem_cons.2 ⟨?_,fun _ h=>nomatch h⟩⟩⟩⟩
   ·intro ρ h hv hp
    obtain⟨c0,_⟩:=Eq.mp (zcq ρ) hp
    refine .inl ⟨rfl,List.forall_mem_cons.2 ⟨jf _ _,fun _ h=>nomatch h⟩,[.ifc 44 (.int .i64 ⟨(.c 3),3,3⟩)],by kernel_rfl,fun b=>?_⟩
    have c:=of_decide_eq_true c0
    have h1:=h.len
    rw[MB (by omega)]
    rfl
   ·intro ρ h hv hp
    obtain⟨c0,c1,_⟩:=Eq.mp (zcr ρ) hp
    refine .inl ⟨rfl,List.forall_mem_cons.2 ⟨jf _ _,fun _ h=>nomatch h⟩,[.ifc 44 (.int .i64 ⟨(.c 2),2,2⟩)],by kernel_rfl,fun b=>?_⟩
    have c:=of_decide_eq_true c0
    have d:=of_decide_eq_true c1
    have h1:=h.len
    rw[MC (by omega)]
    rfl
   ·intro ρ h hv hp
    obtain⟨c0,c1,c2,_⟩:=Eq.mp (zcs ρ) hp
    refine .inl ⟨rfl,List.forall_mem_cons.2 ⟨?_,fun _ h=>nomatch h⟩,[.ifc 44 (.int .i64 ⟨(.v 900),1,5⟩)],by kernel_rfl,fun b=>?_⟩
    ·have e:ρ.fn 60 [0]=z7 g.f g.n:=by rw[h.std.f rfl];rfl
     rw[e]at c0
     have hb:=yq g.f g.n
     have c0:¬z7 g.f g.n=0:=by simpa using c0
     exact zg (z:=z7 g.f g.n) e (by show(1:Int)<=_;omega) (by show _<=(5:Int);omega)
    ·have e:ρ.fn 60 [0]=z7 g.f g.n:=by rw[h.std.f rfl];rfl
     rw[e]at c0
     have c0:¬z7 g.f g.n=0:=by simpa using c0
     have c:=of_decide_eq_true c1
     have d:=of_decide_eq_true c2
     have h1:=h.len
     show Value.iface 44 (.int .i64 (ρ.fn 60 [0]))=_
     rw[e,MD (by omega) (by omega) c0,qp,if_neg c0]
   ·intro ρ h hv hp
    obtain⟨c0,c1,c2,_⟩:=Eq.mp (zct ρ) hp
    refine .inr ⟨rfl,rfl,?_⟩
    have e:ρ.fn 60 [0]=z7 g.f g.n:=by rw[h.std.f rfl];rfl
    rw[e]at c0
    have c0:z7 g.f g.n=0:=by simpa using c0
    have c:=of_decide_eq_true c1
    have d:=of_decide_eq_true c2
    have h1:=h.len
    exact⟨⟨h.std.sub _,h.len,h.small⟩,Int.le_refl _,by show(1:Int)<=g.n;omega,by omega,by omega,vr.1 c0,fun k hk=>absurd hk (by show ¬k+1<1;omega)⟩)
  (by
   refine List.forall_mem_cons.2 ⟨?_,List.forall_mem_cons.2 ⟨?_,List.forall_mem_cons.2 ⟨?_,fun _ h=>nomatch h⟩⟩⟩
   ·intro ρ h hv hp
    obtain⟨c0,c1,_⟩:=Eq.mp (zcv ρ) hp
    refine .inr (.inr ⟨rfl,List.forall_mem_cons.2 ⟨jf _ _,fun _ h=>nomatch h⟩,[.ifc 44 (.int .i64 ⟨(.c 3),3,3⟩)],by kernel_rfl,fun b=>?_⟩)
    have c:=of_decide_eq_true c0
    have d:=of_decide_eq_true c1
    have h1:=h.lo
    have h2:=h.hi
    have h3:=h.one.len
    have h4:=h.n2
    have h5:=h.n8
    rw[h.one.el,h.one.el]at c
    have e:((ρ.iv 13-1).toNat)+1=(ρ.iv 13).toNat:=by omega
    rw[JI h4 h5 (kC h.w),mM (k:=(ρ.iv 13-1).toNat) (by omega) (by rw[e];omega)]
    rfl
   ·intro ρ h hv hp
    obtain⟨c0,c1,_⟩:=Eq.mp (zcw ρ) hp
    refine .inl ⟨rfl,rfl,?_,?_⟩
    ·have c:=of_decide_eq_true c0
     have d:=of_decide_eq_true c1
     have h1:=h.lo
     have h2:=h.hi
     have h3:=h.one.len
     rw[h.one.el,h.one.el]at c
     exact⟨⟨h.one.std.sub _,h.one.len,h.one.small⟩,by show 1<=ρ.iv 13+1;omega,by show ρ.iv 13+1<=g.n;omega,h.n2,h.n8,h.w,MA h1 h.all c⟩
    ·have d:=of_decide_eq_true c1
     have h3:=h.one.len
     show(g.n-(ρ.iv 13+1)).toNat<(g.n-ρ.iv 13).toNat
     omega
   ·intro ρ h hv hp
    obtain⟨c0,_⟩:=Eq.mp (zcx ρ) hp
    refine .inr (.inl ⟨rfl,rfl,?_⟩)
    have d:=of_decide_eq_true c0
    have h2:=h.hi
    have h3:=h.one.len
    have e:(ρ.iv 13).toNat=g.n:=by omega
    exact⟨⟨⟨h.one.std.sub _,h.one.len,h.one.small⟩,h.lo,h.hi,h.n2,h.n8,h.w,h.all⟩,by rw[<-e];exact h.all⟩)
  (by
   refine List.forall_mem_cons.2 ⟨?_,fun _ h=>nomatch h⟩
   ·intro ρ h hv hp
    refine⟨.inr rfl,(fun _ h=>nomatch h),[.nili],by kernel_rfl,fun b=>?_⟩
    have h4:=h.i.n2
    have h5:=h.i.n8
    rw[JI h4 h5 (kC h.i.w),Jd h.all]
    rfl)
  h0 ⟨fun _=>0,fun _=>0,fun _=>0⟩ w (qU _ _ _ _) ⟨s1,trivial⟩ hm
 have e:SV.denL ρ0 ⟨fun _=>0,fun _=>0,fun _=>0⟩ XS=[.slice g.A g.n g.c]:=by
  unfold XS
  simp only[SV.denL]
  rw[s2]
 rw[e]at key
 exact key
set_option maxRecDepth 100000 in
set_option maxHeartbeats 1000000 in
theorem Vs (g:GD) (hk:g.ks=[true]) (hn:g.n<=1000) (x:Int) (hx:B64 x) (w:World) (o:g.ok w):
  Calls Tryz.prog 169 #[.slice g.A g.n g.c,.int .i64 x] w fun e w'=>e= .returned (.int .i64 (ppc g.f x (g.n-2) 0))/\Below w.heap.size w w':=by
 obtain⟨ρ0,h0,hx0,hm,s1,s2⟩:=gY o hk hn x ⟨fun _=>0,fun _=>0,fun _=>0⟩
 have key:=jh (P:=Tryz.prog) (cfg:=qb jS Qp 50 12) Tryz.func169 rfl (k:=2) (i:=0) (n:=5) (by decide+kernel) (by kernel_rfl) (args:=XT) (H:=[]) (nx:=0) zhc zcz zlH zhd zcA zlI zhe zcD zlJ (V:= .int .i64 (ppc g.f x (g.n-2) 0)) (LOneX g x) (PieceI g x) (PieceI2 g x) (fun ρ=>(1000-ρ.iv 13).toNat)
  (fun ρ h=>⟨h.one.std.et,zP _ _⟩) (fun ρ h=>⟨h.one.std.et,zP _ _⟩) (fun ρ ρ' h hs=>h.same hs) (fun ρ ρ' h hs=>h.same hs) (fun ρ h=>h.i) (fun ρ ρ' h hs=>⟨(h.i.same hs).1,by rw[zz hs (n:=13) rfl];exact h.end_⟩) (by kernel_rfl)
  (fun ρ h=>by
   have h1:=h.one.len
   have h2:=h.one.small
   have h3:=h.x
   have h4:=hx.1
   have h5:=hx.2
   refine List.forall_mem_cons.2 ⟨?_,List.forall_mem_cons.2 ⟨?_,fun _ h=>nomatch h⟩⟩
   ·exact zg (z:=ρ.iv 4) rfl (by show(0:Int)<=ρ.iv 4;omega) (by show ρ.iv 4<=1000;omega)
   ·exact zg (z:=ρ.iv 5) rfl (by show(-9223372036854775808:Int)<=ρ.iv 5;omega) (by show ρ.iv 5<=9223372036854775807;omega))
  (fun ρ h=>by
   have h1:=h.lo
   have h2:=h.hi
   have h3:=h.one.len
   have h4:=h.one.small
   have h5:=h.ex
   have h6:=hx.1
   have h7:=hx.2
   refine List.forall_mem_cons.2 ⟨?_,List.forall_mem_cons.2 ⟨?_,List.forall_mem_cons.2 ⟨?_,fun _ h=>nomatch h⟩⟩⟩
   ·exact zg (z:=ρ.iv 13) rfl (by show(0:Int)<=ρ.iv 13;omega) (by show ρ.iv 13<=1000;omega)
   ·exact zg (z:=ρ.iv 4) rfl (by show(0:Int)<=ρ.iv 4;omega) (by show ρ.iv 4<=1000;omega)
   ·exact zg (z:=ρ.iv 5) rfl (by show(-9223372036854775808:Int)<=ρ.iv 5;omega) (by show ρ.iv 5<=9223372036854775807;omega))
  (fun ρ h hv=>Eq.mpr (zob ρ) (by
   trivial))
  (fun ρ h hv=>Eq.mpr (zod ρ) (by
   have h1:=h.lo
   have h3:=h.one.len
   refine⟨fun⟨c,_⟩=>?_,trivial⟩
   have c:=of_decide_eq_true c
   exact decide_eq_true (by omega)))
  (fun ρ h hv=>Eq.mpr (zof ρ) (by
   trivial))
  (by
   refine List.forall_mem_cons.2 ⟨?_,fun _ h=>nomatch h⟩
   ·intro ρ h hv hp
    refine .inr ⟨rfl,rfl,?_⟩
    exact⟨⟨h.one.std.sub _,h.one.len,h.one.small⟩,h.x,Int.le_refl _,by show(0:Int)<=1000;omega,rfl,.inr rfl⟩)
  (by
   refine List.forall_mem_cons.2 ⟨?_,List.forall_mem_cons.2 ⟨?_,fun _ h=>nomatch h⟩⟩
   ·intro ρ h hv hp
    obtain⟨c0,_⟩:=Eq.mp (zcB ρ) hp
    refine .inl ⟨rfl,rfl,?_,?_⟩
    ·simp only[Bool.and_eq_true,decide_eq_true_eq]at c0
     obtain⟨c1,c2⟩:=c0
     have h1:=h.lo
     have h3:=h.one.len
     have h4:=h.one.small
     rw[h.one.el,h.ex]at c2
     refine⟨⟨h.one.std.sub _,h.one.len,h.one.small⟩,h.ex,by show 0<=ρ.iv 13+1;omega,by show ρ.iv 13+1<=1000;omega,?_,.inl (by show ρ.iv 13+1+2<=g.n;omega)⟩
     show _=ppc g.f x (g.n-2-(ρ.iv 13+1).toNat) (ρ.iv 13+1).toNat
     rw[h.at_]
     have e:(ρ.iv 13+1).toNat=(ρ.iv 13).toNat+1:=by omega
     have e2:g.n-2-(ρ.iv 13).toNat=(g.n-2-(ρ.iv 13+1).toNat)+1:=by omega
     rw[e]at c2 e2 ⊢
     rw[e2,zcK c2]
    ·simp only[Bool.and_eq_true,decide_eq_true_eq]at c0
     have h3:=h.one.len
     have h4:=h.one.small
     show(1000-(ρ.iv 13+1)).toNat<(1000-ρ.iv 13).toNat
     omega
   ·intro ρ h hv hp
    obtain⟨c0,_⟩:=Eq.mp (zcC ρ) hp
    refine .inr (.inl ⟨rfl,rfl,?_⟩)
    have h1:=h.lo
    have h3:=h.one.len
    refine⟨⟨⟨h.one.std.sub _,h.one.len,h.one.small⟩,h.ex,h.lo,h.hi,h.at_,h.n⟩,?_⟩
    rw[h.at_]
    show ppc g.f x (g.n-2-(ρ.iv 13).toNat) (ρ.iv 13).toNat=(ρ.iv 13).toNat
    by_cases hc:ρ.iv 13+2<g.n
    ·have c2:¬g.f ((ρ.iv 13).toNat+1)<=x:=by
      intro hle
      have e:(ρ.iv 13+1).toNat=(ρ.iv 13).toNat+1:=by omega
      rw[h.one.el,h.ex,e,h3]at c0
      simp[hc,hle]at c0
     exact zcM c2 _
    ·have e:g.n-2-(ρ.iv 13).toNat=0:=by omega
     rw[e,zcL])
  (by
   refine List.forall_mem_cons.2 ⟨?_,fun _ h=>nomatch h⟩
   ·intro ρ h hv hp
    refine⟨.inr rfl,List.forall_mem_cons.2 ⟨?_,fun _ h=>nomatch h⟩,[.int .i64 ⟨(.v 900),0,1000⟩],by kernel_rfl,fun b=>?_⟩
    ·have h1:=h.i.lo
     have h2:=h.i.hi
     exact zg (z:=ρ.iv 13) rfl (by show(0:Int)<=ρ.iv 13;omega) (by show ρ.iv 13<=1000;omega)
    ·have h1:=h.i.lo
     rw[h.end_]
     show Value.int .i64 (ρ.iv 13)= .int .i64 ((ρ.iv 13).toNat:Int)
     rw[Int.toNat_of_nonneg h1])
  ⟨h0,hx0⟩ ⟨fun _=>0,fun _=>0,fun _=>0⟩ w (qU _ _ _ _) ⟨s1,⟨by show _<=ρ0.iv 5;rw[hx0];exact hx.1,by show ρ0.iv 5<=_;rw[hx0];exact hx.2⟩,trivial⟩ hm
 have e:SV.denL ρ0 ⟨fun _=>0,fun _=>0,fun _=>0⟩ XT=[.slice g.A g.n g.c,.int .i64 x]:=by
  unfold XT
  simp only[SV.denL]
  rw[s2]
  simp only[SV.den,E.i,hx0]
 rw[e]at key
 exact key
set_option maxRecDepth 100000 in
set_option maxHeartbeats 1000000 in
theorem MF (g:GD) (hk:g.ks=[true]) (hn:g.n<=1000) (w:World) (o:g.ok w):
  Calls Tryz.prog 131 #[.slice g.A g.n g.c] w fun e w'=>e= .returned (.int .i64 (zR g.f g.n))/\Below w.heap.size w w':=by
 obtain⟨ρ0,h0,_,hm,s1,s2⟩:=gY o hk hn 0 ⟨fun _=>0,fun _=>0,fun _=>0⟩
 have key:=jh (P:=Tryz.prog) (cfg:=qb Mx Qq 50 12) Tryz.func131 rfl (k:=3) (i:=0) (n:=6) (by decide+kernel) (by kernel_rfl) (args:=XU) (H:=[]) (nx:=0) zhf zcE zlL zhg zcF zlM zhh zcI zlN (V:= .int .i64 (zR g.f g.n)) (LOne g) (RRiseI g) (RRiseI2 g) (fun ρ=>(g.n-ρ.iv 13).toNat)
  (fun ρ h=>⟨h.std.et,Mz h.std (gX o) (Qn hk)⟩) (fun ρ h=>⟨h.one.std.et,Mz h.one.std (gX o) (Qn hk)⟩) (fun ρ ρ' h hs=>h.same hs) (fun ρ ρ' h hs=>h.same hs) (fun ρ h=>h.i) (fun ρ ρ' h hs=>⟨(h.i.same hs).1,by rw[Z9 hs (n:=13) rfl];exact h.all⟩) (by kernel_rfl)
  (fun ρ h=>by
   have h1:=h.len
   have h2:=h.small
   refine List.forall_mem_cons.2 ⟨?_,fun _ h=>nomatch h⟩
   ·exact zg (z:=ρ.iv 4) rfl (by show(0:Int)<=ρ.iv 4;omega) (by show ρ.iv 4<=1000;omega))
  (fun ρ h=>by
   have h1:=h.lo
   have h2:=h.hi
   have h3:=h.one.len
   have h4:=h.one.small
   refine List.forall_mem_cons.2 ⟨?_,List.forall_mem_cons.2 ⟨?_,fun _ h=>nomatch h⟩⟩
   ·exact zg (z:=ρ.iv 13) rfl (by show(1:Int)<=ρ.iv 13;omega) (by show ρ.iv 13<=1000;omega)
   ·exact zg (z:=ρ.iv 4) rfl (by show(0:Int)<=ρ.iv 4;omega) (by show ρ.iv 4<=1000;omega))
  (fun ρ h hv=>Eq.mpr (zoh ρ) (by
   trivial))
  (fun ρ h hv=>Eq.mpr (zoj ρ) (by
   have h1:=h.lo
   have h2:=h.hi
   have h3:=h.one.len
   refine⟨fun⟨c,d,_⟩=>?_,trivial⟩
   have d:=of_decide_eq_true d
   exact decide_eq_true (by omega)))
  (fun ρ h hv=>Eq.mpr (zom ρ) (by
   trivial))
  (by
   refine List.forall_mem_cons.2 ⟨?_,fun _ h=>nomatch h⟩
   ·intro ρ h hv hp
    refine .inr ⟨rfl,rfl,?_⟩
    exact⟨⟨h.std.sub _,h.len,h.small⟩,Int.le_refl _,.inr rfl,⟨fun hc=>(by cases hc),fun hc=>(by
     have:kX g.f 1=3:=hc
     simp[kX]at this)⟩⟩)
  (by
   refine List.forall_mem_cons.2 ⟨?_,List.forall_mem_cons.2 ⟨?_,fun _ h=>nomatch h⟩⟩
   ·intro ρ h hv hp
    obtain⟨c0,_⟩:=Eq.mp (zcG ρ) hp
    refine .inl ⟨rfl,rfl,?_,?_⟩
    ·have d:=of_decide_eq_true c0
     have h1:=h.lo
     have h2:=h.hi
     have h3:=h.one.len
     refine⟨⟨h.one.std.sub _,h.one.len,h.one.small⟩,by show 1<=ρ.iv 13+1;omega,.inl (by show ρ.iv 13+1<=g.n;omega),?_⟩
     show(ρ.bv 13||decide (ρ.fn 1000 [ρ.iv 13]<=ρ.fn 1000 [ρ.iv 13-1]))=true↔kX g.f (ρ.iv 13+1).toNat=3
     rw[h.one.el,h.one.el,Bool.or_eq_true,h.all,decide_eq_true_eq]
     have e:(ρ.iv 13+1).toNat=(ρ.iv 13-1).toNat+2:=by omega
     have e2:(ρ.iv 13).toNat=(ρ.iv 13-1).toNat+1:=by omega
     rw[e,e2]
     exact(Vr g.f _).symm
    ·have d:=of_decide_eq_true c0
     have h3:=h.one.len
     show(g.n-(ρ.iv 13+1)).toNat<(g.n-ρ.iv 13).toNat
     omega
   ·intro ρ h hv hp
    obtain⟨c0,_⟩:=Eq.mp (zcH ρ) hp
    refine .inr (.inl ⟨rfl,rfl,?_⟩)
    have d:=of_decide_eq_true c0
    have h1:=h.lo
    have h2:=h.hi
    have h3:=h.one.len
    refine⟨⟨⟨h.one.std.sub _,h.one.len,h.one.small⟩,h.lo,h.hi,h.all⟩,?_⟩
    show ρ.bv 13=true↔_
    rw[h.all]
    rcases h2 with h2|h2
    ·have e:(ρ.iv 13).toNat=g.n:=by omega
     rw[e]
    ·have hn:g.n=0\/g.n=1:=by omega
     rw[h2]
     rcases hn with hn|hn<;>rw[hn]<;>simp[kX])
  (by
   refine List.forall_mem_cons.2 ⟨?_,fun _ h=>nomatch h⟩
   ·intro ρ h hv hp
    obtain⟨h0,_⟩:=Eq.mp (zcJ ρ) hv
    have e60:ρ.fn 60 [0]=z7 g.f g.n:=by rw[h.i.one.std.f rfl];rfl
    rw[e60,h.i.one.len]at h0
    have hy:ρ.iv 792717386363595369=zR g.f g.n:=by
     rw[h0,zR]
     have hb:=h.all
     by_cases c1:g.n<2
     ·have a1:decide ((g.n:Int)<2)=true:=decide_eq_true (by omega)
      simp[a1,c1]
     ·have a1:decide ((g.n:Int)<2)=false:=decide_eq_false (by omega)
      by_cases c2:8<g.n
      ·have a2:decide ((8:Int)<(g.n:Int))=true:=decide_eq_true (by omega)
       simp[a1,a2,c1,c2]
      ·have a2:decide ((8:Int)<(g.n:Int))=false:=decide_eq_false (by omega)
       rcases yI g.f g.n with hp2|hp2
       ·have hb':ρ.bv 13=false:=by
         cases hbv:ρ.bv 13 with
         |false=>rfl
         |true=>have:=hb.1 hbv;rw[hp2]at this;cases this
        rw[hp2,hb']
        simp only[a1,a2,c1,c2,por,if_false,if_true,Bool.false_eq_true,decide_true,Bool.not_true,Bool.not_eq_true',decide_eq_false_iff_not]
        split<;>simp_all
       ·have hb':ρ.bv 13=true:=hb.2 hp2
        rw[hp2,hb']
        simp only[a1,a2,c1,c2,por,if_false,if_true,Bool.false_eq_true,decide_true,Bool.not_true,Bool.not_eq_true',decide_eq_false_iff_not]
        split<;>simp_all
    refine⟨.inr rfl,List.forall_mem_cons.2 ⟨?_,fun _ h=>nomatch h⟩,[.int .i64 ⟨(.v 900),0,5⟩],by kernel_rfl,fun b=>?_⟩
    ·exact zg (z:=ρ.iv 792717386363595369) rfl (by show(0:Int)<=_;rw[hy];exact(kn _ _).1) (by show _<=(5:Int);rw[hy];exact(kn _ _).2)
    ·show Value.int .i64 (ρ.iv 792717386363595369)=_
     rw[hy])
  h0 ⟨fun _=>0,fun _=>0,fun _=>0⟩ w (qU _ _ _ _) ⟨s1,trivial⟩ hm
 have e:SV.denL ρ0 ⟨fun _=>0,fun _=>0,fun _=>0⟩ XU=[.slice g.A g.n g.c]:=by
  unfold XU
  simp only[SV.denL]
  rw[s2]
 rw[e]at key
 exact key
end Go.Proofs.YtoakpnoajmngmaaGreatDoor.Sx
namespace Go.Proofs.YtoakpnoajmngmaaGreatDoor.Sx
open Go.RowKit
def biP (id:Nat) (mk:R->SV) (args:List SV):Option (List E × SV):=match args with
 |[.agg [.osl k [.int .i64 _ _] len,.osl m [.int .i64 _ _] len']]=>if len.hi<=1000/\len'.hi<=1000 then some ([],mk ⟨.ap id (.cons (.c k) (.cons (.c m) .nil)),0,5⟩)else none
 |_=>none
def MG (args:List SV):Option (List E × SV):=match args with
 |[.osl k [.int .i64 _ _] len,.int .i64 x]=>if len.hi<=1000/\ -9223372036854775808<=x.lo/\x.hi<=9223372036854775807 then some ([],.int .i64 ⟨.ap 63 (.cons (.c k) (.cons x.e .nil)),0,1000⟩)else none
 |_=>none
def zcN (args:List SV):Option (List E × SV):=match args with
 |[.int .i64 n,.int .i64 d]=>some ([.bin .lt (.c 0) d.e,.bin .le d.e (.c 4000000000000),.bin .le (.c (-4400000000000000000)) n.e,.bin .le n.e (.c 4400000000000000000)],.int .i64 ⟨.ap 50 (.cons n.e (.cons d.e .nil)),-9000000000000000000,9000000000000000000⟩)
 |_=>none
section
variable {G:Nat->GD} {ρ:Env}
theorem kQ {fn:(Nat->GD)->Nat->List Int->Int} {fb:(Nat->GD)->Nat->List Int->Bool} (h:Std fn fb G ρ) {N:Nat->Prop} {k:Nat} {sh:List CK} {len:R} (h1:(SV.osl k sh len).ok ρ N) (hl:len.hi<=1000):(G k).n<=1000:=by
 have e:=h1.2.2.2
 rw[h.ol]at e
 have:=h1.1.2
 simp only at e
 omega
theorem zfb {P:Program} {F:FuncId} {fn:(Nat->GD)->Nat->List Int->Int} {fb:(Nat->GD)->Nat->List Int->Bool} (h:Std fn fb G ρ) {w0:World} (hG:∀k,(G k).ok w0) (hks:∀k,(G k).ks=[true]) {id:Nat} (hid:Nat.blt id 1000=true) {mk:R->SV} {mv:Int->Value} {φ:GD->GD->Int}
  (hφ:∀k m,fn G id [k,m]=φ (G k.toNat) (G m.toNat)) (hb:∀g g',0<=φ g g'/\φ g g'<=5) (hmk:∀r b,(mk r).den ρ b=mv (r.e.i ρ)) (hmo:∀r N,r.ok ρ->(mk r).ok ρ N)
  (hc:∀g g' w,g.ks=[true]->g'.ks=[true]->g.n<=1000->g'.n<=1000->g.ok w->g'.ok w->Calls P F #[.agg #[.slice g.A g.n g.c,.slice g'.A g'.n g'.c]] w fun e w'=>e= .returned (mv (φ g g'))/\Below w.heap.size w w'):HOK P ρ (zb F (biP id mk)):=by
 refine zo fun args gs v hp hg b base w N hok hm hbase=>?_
 unfold biP at hp
 split at hp
 ·rename_i k lo hi len m lo' hi' len'
  split at hp
  ·rename_i hl
   cases hp
   obtain⟨⟨h1,h1',_⟩,_⟩:=hok
   have e1:(SV.denL ρ b [.agg [.osl k [.int .i64 lo hi] len,.osl m [.int .i64 lo' hi'] len']]).toArray=#[.agg #[.slice (G k).A (G k).n (G k).c,.slice (G m).A (G m).n (G m).c]]:=by
    simp only[SV.denL,zA]
    rw[h.slice h1,h.slice h1']
   rw[e1]
   refine(hc (G k) (G m) w (hks k) (hks m) (kQ h h1 hl.1) (kQ h h1' hl.2) (h.row hG hm hbase k) (h.row hG hm hbase m)).mono ?_
   rintro e w' ⟨h2,h3⟩
   have e2:(E.ap id (.cons (.c k) (.cons (.c m) .nil))).i ρ=φ (G k) (G m):=by
    simp only[E.i,E.l]
    rw[h.f hid,hφ,Int.toNat_natCast,Int.toNat_natCast]
   refine⟨by rw[h2,hmk,e2],hmo _ _ ?_,h3⟩
   unfold R.ok
   rw[e2]
   exact hb _ _
  ·cases hp
 ·cases hp
theorem zlO (f:Nat->Int) (x:Int):∀d i,ppc f x d i<=i+d:=by
 intro d
 induction d with
 |zero=>intro i;exact Nat.le_refl _
 |succ d ih=>
  intro i
  show(if f (i+1)<=x then ppc f x d (i+1)else i)<=_
  split
  ·have:=ih (i+1);omega
  ·omega
theorem MH (h:Std lnF lnB G ρ) {w0:World} (hG:∀k,(G k).ok w0) (hks:∀k,(G k).ks=[true]):HOK Tryz.prog ρ (zb 169 MG):=by
 refine zo fun args gs v hp hg b base w N hok hm hbase=>?_
 unfold MG at hp
 split at hp
 ·rename_i k lo hi len x
  split at hp
  ·rename_i hl
   cases hp
   obtain⟨h1,h2,_⟩:=hok
   have hn:=kQ h h1 hl.1
   have e1:(SV.denL ρ b [.osl k [.int .i64 lo hi] len,.int .i64 x]).toArray=#[.slice (G k).A (G k).n (G k).c,.int .i64 (x.e.i ρ)]:=by
    simp only[SV.denL,zh]
    rw[h.slice h1]
   rw[e1]
   refine(Vs (G k) (hks k) hn (x.e.i ρ) ⟨by have:=h2.1;omega,by have:=h2.2;omega⟩ w (h.row hG hm hbase k)).mono ?_
   rintro e w' ⟨h3,h4⟩
   have e2:(E.ap 63 (.cons (.c k) (.cons x.e .nil))).i ρ=(ppc (G k).f (x.e.i ρ) ((G k).n-2) 0:Int):=by
    simp only[E.i,E.l]
    rw[h.f rfl]
    rfl
   refine⟨by rw[h3,zh,e2],?_,h4⟩
   simp only[SV.ok,R.ok,e2]
   have:=zlO (G k).f (x.e.i ρ) ((G k).n-2) 0
   omega
  ·cases hp
 ·cases hp
theorem XV {n d:Int} (hd:0<d) (h1: -4400000000000000000<=n) (h2:n<=4400000000000000000): -9000000000000000000<=Za n d/\Za n d<=9000000000000000000:=by
 unfold Za
 have:=zba (2*n+d) (2*d) 8900000000000000000 (by omega)
 by_cases hbig:d<=100000000000000000
 ·have:=this (by omega) (by omega) (by omega);omega
 ·constructor
  ·refine Int.le_ediv_of_mul_le (by omega) ?_;omega
  ·have:(2*n+d)/(2*d)<9000000000000000000:=Int.ediv_lt_of_lt_mul (by omega) (by omega)
   omega
theorem MI {F:FuncId} (h:Std lnF lnB G ρ) (hc:∀n d w,0<d->d<=4000000000000-> -4400000000000000000<=n->n<=4400000000000000000->Calls Tryz.prog F #[.int .i64 n,.int .i64 d] w fun e w'=>e= .returned (.int .i64 (Za n d))/\Below w.heap.size w w'):HOK Tryz.prog ρ (zb F zcN):=by
 refine zo fun args gs v hp hg b base w N hok hm hbase=>?_
 unfold zcN at hp
 split at hp
 ·rename_i n d
  cases hp
  have g1:=hg _ (.head _)
  have g2:=hg _ (.tail _ (.head _))
  have g3:=hg _ (.tail _ (.tail _ (.head _)))
  have g4:=hg _ (.tail _ (.tail _ (.tail _ (.head _))))
  have g1:0<d.e.i ρ:=of_decide_eq_true g1
  have g2:d.e.i ρ<=4000000000000:=of_decide_eq_true g2
  have g3: -4400000000000000000<=n.e.i ρ:=of_decide_eq_true g3
  have g4:n.e.i ρ<=4400000000000000000:=of_decide_eq_true g4
  have e1:(SV.denL ρ b [.int .i64 n,.int .i64 d]).toArray=#[.int .i64 (n.e.i ρ),.int .i64 (d.e.i ρ)]:=by
   simp only[SV.denL,zh]
  rw[e1]
  refine(hc _ _ w g1 g2 g3 g4).mono ?_
  rintro e w' ⟨h3,h4⟩
  have e2:(E.ap 50 (.cons n.e (.cons d.e .nil))).i ρ=Za (n.e.i ρ) (d.e.i ρ):=by
   simp only[E.i,E.l]
   rw[h.f rfl]
   rfl
  refine⟨by rw[h3,zh,e2],?_,h4⟩
  simp only[SV.ok,R.ok,e2]
  exact XV g1 g3 g4
 ·cases hp
end
def zhi:zl:=zF (zb 166 (unP 61 .err)) (zb 167 (unP 60 .err))
def zhj:zl:=zF (zb 131 (unP 61 (.int .i64))) (zb 132 (unP 60 (.int .i64)))
def zhk:zl:=zF (zb 169 MG) (zb 170 zcN)
def MJ:zl:=zb 134 zcN
def zon:zl:=zb 152 (biP 62 .err)
section
variable {G:Nat->GD} {ρ:Env} (h:Std lnF lnB G ρ) {w0:World} (hG:∀k,(G k).ok w0) (hks:∀k,(G k).ks=[true])
include h hG hks
theorem zlP:HOK Tryz.prog ρ zhi:=zc
 (XR h hG hks rfl (mv:=qp) (φ:=fun g=>zR g.f g.n) (fun k=>rfl) (fun g=>kn _ _) (fun r b=>k8 ρ h.et r b) (fun r N hr=>hr) fun g w hk hn o=>Yg g hk hn w o) (My h hG hks)
theorem zlQ:HOK Tryz.prog ρ zhj:=zc
 (XR h hG hks rfl (mv:=fun z=> .int .i64 z) (φ:=fun g=>zR g.f g.n) (fun k=>rfl) (fun g=>kn _ _) (fun r b=>rfl) (fun r N hr=>hr) fun g w hk hn o=>MF g hk hn w o) (Mz h hG hks)
theorem zlR:HOK Tryz.prog ρ zhk:=zc (MH h hG hks) (MI h fun n d w h1 h2 h3 h4=>(zbd n d w h1 h2 h3 h4).mono fun e w' he=>⟨he.1,by rw[<-he.2];exact Below.refl _ _⟩)
omit hG hks in
theorem zfc:HOK Tryz.prog ρ MJ:=MI h fun n d w h1 h2 h3 h4=>(zpw n d w h1 h2 h3 h4).mono fun e w' he=>⟨he.1,by rw[<-he.2];exact Below.refl _ _⟩
end
end Go.Proofs.YtoakpnoajmngmaaGreatDoor.Sx
namespace Go.Proofs.YtoakpnoajmngmaaGreatDoor.Sx
def MK:List (Nat × List (Nat × List Nat)):=[(152,[(0,[1]),(1,[1,10]),(2,[2]),(3,[1,3]),(4,[1,3,16]),(5,[2]),(6,[2])]),
 (166,[(0,[0]),(1,[0,7]),(2,[2]),(3,[0,11]),(4,[2]),(5,[0,3]),(6,[0,3,16]),(7,[2]),(8,[0,4]),(9,[0,4,21]),(10,[0,4]),(11,[0,4,33]),(12,[2]),(13,[2])]),
 (167,[(0,[0]),(1,[5,6,7]),(2,[5,6,7,8]),(3,[4,5,6,7]),(4,[5,6,7,16]),(5,[2]),(6,[5,6,7]),(7,[2])])]
def XW:List SV:=[.agg [.osl 0 [.int .i64 (-9223372036854775808) 9223372036854775807] ⟨(.v 4),0,1000⟩,.osl 1 [.int .i64 (-9223372036854775808) 9223372036854775807] ⟨(.v 6),0,1000⟩]]
def zqI:List LS:=[⟨[],.ret,⟨[(2,⟨[],.err ⟨(.v 900),0,5⟩⟩)],[],0,21⟩,⟨[(900,(.ite (.un .not (.bin .eq (.v 4) (.v 6))) (.c 3) (.v 1768319584019362276)))],[]⟩⟩]
def zoo:List VC:=[qN 1768319584019362276 (.ite (pU (pQ (.ap 61 (.cons (.c 0) .nil)) (.c 0))) (.ap 61 (.cons (.c 0) .nil)) (.ap 60 (.cons (.c 1) .nil)))]
theorem zhl:ran (ya Tryz.prog 44 (qb zhi MK 50 12) 152 (qy Tryz.prog 152) (start Tryz.prog 152 XW [] 0)) zqI zoo=true:=by kernel_rfl
def zop:List VC:=[]
theorem zcO:qL zoo [] []=zop:=by kernel_rfl
theorem zlS:zop.all VC.isNo=true:=by kernel_rfl
theorem zoq (ρ:Env):ye ρ zop=(True):=by kernel_rfl
theorem zcP (ρ:Env):qA ρ zoo=(ρ.iv 1768319584019362276=(if(!(decide ((ρ.fn 61 ((0:Int)::[]))=(0:Int))))=true then(ρ.fn 61 ((0:Int)::[]))else(ρ.fn 60 ((1:Int)::[])))/\
 True):=by kernel_rfl
def ML:List (Nat × List (Nat × List Nat)):=[(8,[(0,[0,1]),(1,[1,5]),(2,[4]),(3,[4])]),
 (7,[(0,[0]),(1,[0,3]),(2,[0,3,7]),(3,[0,3]),(4,[0,3,14]),(5,[2]),(6,[2])]),
 (20,[(0,[0,1,2]),(1,[6])]),
 (97,[(0,[1]),(1,[2])]),
 (131,[(0,[0]),(1,[0,3]),(2,[0,3,4]),(3,[0,3,4,8]),(4,[0,3,4]),(5,[0,3,4]),(6,[2])]),
 (132,[(0,[0]),(1,[0,3]),(2,[0,3,7]),(3,[0,3]),(4,[0,3,15]),(5,[2]),(6,[2])])]
def XX:List SV:=[.agg [.osl 0 [.int .i64 (-9223372036854775808) 9223372036854775807] ⟨(.v 4),0,1000⟩,.osl 1 [.int .i64 (-9223372036854775808) 9223372036854775807] ⟨(.v 6),0,1000⟩]]
def zqJ:List LS:=[⟨[],.ret,⟨[(2,⟨[],.int .i64 ⟨(.v 900),0,5⟩⟩)],[],0,19⟩,⟨[(900,(.v 382609464082087397))],[]⟩⟩]
def zor:List VC:=[qN 382609464082087397 (.ite (pU (pQ (.ite (pU (pQ (.v 4) (.v 6))) (.c 3) (.c 0)) (.c 0))) (.ite (pU (pQ (.v 4) (.v 6))) (.c 3) (.c 0)) (.ite (pU (pQ (.ap 61 (.cons (.c 0) .nil)) (.c 0))) (.ap 61 (.cons (.c 0) .nil)) (.ite (pU (pQ (.ap 60 (.cons (.c 1) .nil)) (.c 0))) (.ap 60 (.cons (.c 1) .nil)) (.c 0)))),
 qN 1982384564458031113 (.ite (pU (pQ (.ite (pU (pQ (.v 4) (.v 6))) (.c 3) (.c 0)) (.c 0))) (.ite (pU (pQ (.v 4) (.v 6))) (.c 3) (.c 0)) (.c 0)),
 qN 963798803453547861 (.ite (pU (pQ (.ite (pU (pQ (.v 4) (.v 6))) (.c 3) (.c 0)) (.c 0))) (.ap 61 (.cons (.c 0) .nil)) (.ite (pU (pQ (.ap 61 (.cons (.c 0) .nil)) (.c 0))) (.ap 61 (.cons (.c 0) .nil)) (.c 0))),
 qN 1244526461393872718 (.ite (pU (pQ (.ite (pU (pQ (.v 4) (.v 6))) (.c 3) (.c 0)) (.c 0))) (.ap 60 (.cons (.c 1) .nil)) (.ite (pU (pQ (.ap 61 (.cons (.c 0) .nil)) (.c 0))) (.ap 60 (.cons (.c 1) .nil)) (.ite (pU (pQ (.ap 60 (.cons (.c 1) .nil)) (.c 0))) (.ap 60 (.cons (.c 1) .nil)) (.c 0))))]
theorem zhm:ran (ya Tryz.prog 44 (qb zhj ML 50 12) 97 (qy Tryz.prog 97) (start Tryz.prog 97 XX [] 0)) zqJ zor=true:=by kernel_rfl
def zos:List VC:=[]
theorem zcQ:qL zor [] []=zos:=by kernel_rfl
theorem zlT:zos.all VC.isNo=true:=by kernel_rfl
theorem zot (ρ:Env):ye ρ zos=(True):=by kernel_rfl
theorem zcR (ρ:Env):qA ρ zor=(ρ.iv 382609464082087397=(if(!(decide ((if(!(decide ((ρ.iv 4)=(ρ.iv 6))))=true then(3:Int)else(0:Int))=(0:Int))))=true then(if(!(decide ((ρ.iv 4)=(ρ.iv 6))))=true then(3:Int)else(0:Int))else(if(!(decide ((ρ.fn 61 ((0:Int)::[]))=(0:Int))))=true then(ρ.fn 61 ((0:Int)::[]))else(if(!(decide ((ρ.fn 60 ((1:Int)::[]))=(0:Int))))=true then(ρ.fn 60 ((1:Int)::[]))else(0:Int))))/\
 ρ.iv 1982384564458031113=(if(!(decide ((if(!(decide ((ρ.iv 4)=(ρ.iv 6))))=true then(3:Int)else(0:Int))=(0:Int))))=true then(if(!(decide ((ρ.iv 4)=(ρ.iv 6))))=true then(3:Int)else(0:Int))else(0:Int))/\
 ρ.iv 963798803453547861=(if(!(decide ((if(!(decide ((ρ.iv 4)=(ρ.iv 6))))=true then(3:Int)else(0:Int))=(0:Int))))=true then(ρ.fn 61 ((0:Int)::[]))else(if(!(decide ((ρ.fn 61 ((0:Int)::[]))=(0:Int))))=true then(ρ.fn 61 ((0:Int)::[]))else(0:Int)))/\
 ρ.iv 1244526461393872718=(if(!(decide ((if(!(decide ((ρ.iv 4)=(ρ.iv 6))))=true then(3:Int)else(0:Int))=(0:Int))))=true then(ρ.fn 60 ((1:Int)::[]))else(if(!(decide ((ρ.fn 61 ((0:Int)::[]))=(0:Int))))=true then(ρ.fn 60 ((1:Int)::[]))else(if(!(decide ((ρ.fn 60 ((1:Int)::[]))=(0:Int))))=true then(ρ.fn 60 ((1:Int)::[]))else(0:Int))))/\
 True):=by kernel_rfl
def MM:List (Nat × List (Nat × List Nat)):=[(80,[(0,[0,1,2]),(1,[0,1,2,14]),(2,[6]),(3,[0,2,18]),(4,[6]),(5,[6])]),
 (163,[(0,[1,2]),(1,[1,2]),(2,[1,2,5]),(3,[1,2,5,6]),(4,[4])]),
 (169,[(0,[0,1]),(1,[0,1,5]),(2,[0,1,5,19]),(3,[0,1,5]),(4,[4])]),
 (170,[(0,[0,1]),(1,[4])]),
 (171,[(0,[0,1]),(1,[0,1,5]),(2,[5,12]),(3,[5]),(4,[4])])]
def XY:List SV:=[.agg [.osl 0 [.int .i64 (-9223372036854775808) 9223372036854775807] ⟨(.v 4),0,1000⟩,.osl 1 [.int .i64 (-9223372036854775808) 9223372036854775807] ⟨(.v 6),0,1000⟩],.int .i64 ⟨(.v 5),(-9223372036854775808),9223372036854775807⟩]
def zqK:List LS:=[⟨[],.ret,⟨[(4,⟨[],.int .i64 ⟨(.v 900),(-9223372036854775808),9223372036854775807⟩⟩)],[],0,65⟩,⟨[(900,(.v 915445799494490897))],[]⟩⟩]
def zou:List VC:=[⟨[],(pT (.c 0) (.v 4))⟩,
 ⟨[],(pT (pS (.v 4) (.c 1)) (.v 4))⟩,
 ⟨[],(pL (.c 0) (pS (.v 4) (.c 1)))⟩,
 qN 406760521677086309 (.ite (pT (.ap 1000 (.cons (pS (.v 4) (.c 1)) .nil)) (.v 5)) (.ap 1000 (.cons (pS (.v 4) (.c 1)) .nil)) (.v 5)),
 qN 1925275249256039237 (.ite (pO (pT (.v 5) (.ap 1000 (.cons (.c 0) .nil))) (pT (.ap 1000 (.cons (pS (.v 4) (.c 1)) .nil)) (.ap 1000 (.cons (.c 0) .nil)))) (.ap 1000 (.cons (.c 0) .nil)) (.v 406760521677086309)),
 ⟨[],(pT (pA (.ap 63 (.cons (.c 0) (.cons (.v 1925275249256039237) .nil))) (.c 1)) (.v 4))⟩,
 ⟨[],(pT (.ap 63 (.cons (.c 0) (.cons (.v 1925275249256039237) .nil))) (.v 4))⟩,
 qN 595631312192478834 (.un (.wrap .i64) (pS (.ap 1000 (.cons (pA (.ap 63 (.cons (.c 0) (.cons (.v 1925275249256039237) .nil))) (.c 1)) .nil)) (.ap 1000 (.cons (.ap 63 (.cons (.c 0) (.cons (.v 1925275249256039237) .nil))) .nil)))),
 ⟨[],(pT (.ap 63 (.cons (.c 0) (.cons (.v 1925275249256039237) .nil))) (.v 6))⟩,
 qN 735445962742978841 (.un (.wrap .i64) (pS (.v 1925275249256039237) (.ap 1000 (.cons (.ap 63 (.cons (.c 0) (.cons (.v 1925275249256039237) .nil))) .nil)))),
 ⟨[],(pT (pA (.ap 63 (.cons (.c 0) (.cons (.v 1925275249256039237) .nil))) (.c 1)) (.v 6))⟩,
 qN 1102493519344395515 (.un (.wrap .i64) (pS (.ap 1100 (.cons (pA (.ap 63 (.cons (.c 0) (.cons (.v 1925275249256039237) .nil))) (.c 1)) .nil)) (.ap 1100 (.cons (.ap 63 (.cons (.c 0) (.cons (.v 1925275249256039237) .nil))) .nil)))),
 ⟨[],(pT (.c 0) (.v 595631312192478834))⟩,
 ⟨[],(pL (.v 595631312192478834) (.c 4000000000000))⟩,
 ⟨[],(pL (.c (-4400000000000000000)) (.un (.wrap .i64) (pM (.v 735445962742978841) (.v 1102493519344395515))))⟩,
 ⟨[],(pL (.un (.wrap .i64) (pM (.v 735445962742978841) (.v 1102493519344395515))) (.c 4400000000000000000))⟩,
 qN 915445799494490897 (.un (.wrap .i64) (pA (.ap 1100 (.cons (.ap 63 (.cons (.c 0) (.cons (.v 1925275249256039237) .nil))) .nil)) (.ap 50 (.cons (.un (.wrap .i64) (pM (.v 735445962742978841) (.v 1102493519344395515))) (.cons (.v 595631312192478834) .nil)))))]
theorem zhn:ran (ya Tryz.prog 44 (qb zhk MM 50 12) 163 (qy Tryz.prog 163) (start Tryz.prog 163 XY [] 0)) zqK zou=true:=by kernel_rfl
def zov:List VC:=[⟨[],(pT (.c 0) (.v 4))⟩,⟨[],(pT (pS (.v 4) (.c 1)) (.v 4))⟩,⟨[],(pL (.c 0) (pS (.v 4) (.c 1)))⟩,⟨[],(pT (pA (.ap 63 (.cons (.c 0) (.cons (.v 1925275249256039237) .nil))) (.c 1)) (.v 4))⟩,⟨[],(pT (.ap 63 (.cons (.c 0) (.cons (.v 1925275249256039237) .nil))) (.v 4))⟩,⟨[],(pT (.ap 63 (.cons (.c 0) (.cons (.v 1925275249256039237) .nil))) (.v 6))⟩,⟨[],(pT (pA (.ap 63 (.cons (.c 0) (.cons (.v 1925275249256039237) .nil))) (.c 1)) (.v 6))⟩,⟨[],(pT (.c 0) (.v 595631312192478834))⟩,⟨[],(pL (.v 595631312192478834) (.c 4000000000000))⟩,⟨[],(pL (.c (-4400000000000000000)) (.un (.wrap .i64) (pM (.v 735445962742978841) (.v 1102493519344395515))))⟩,⟨[],(pL (.un (.wrap .i64) (pM (.v 735445962742978841) (.v 1102493519344395515))) (.c 4400000000000000000))⟩]
theorem zcS:qL zou [] []=zov:=by kernel_rfl
theorem zlU:zov.all VC.isNo=true:=by kernel_rfl
theorem zow (ρ:Env):ye ρ zov=((True->(decide ((0:Int)<(ρ.iv 4)))=true)/\(True->(decide (((ρ.iv 4)-(1:Int))<(ρ.iv 4)))=true)/\(True->(decide ((0:Int)<=((ρ.iv 4)-(1:Int))))=true)/\(True->(decide (((ρ.fn 63 ((0:Int)::((ρ.iv 1925275249256039237)::[])))+(1:Int))<(ρ.iv 4)))=true)/\(True->(decide ((ρ.fn 63 ((0:Int)::((ρ.iv 1925275249256039237)::[])))<(ρ.iv 4)))=true)/\(True->(decide ((ρ.fn 63 ((0:Int)::((ρ.iv 1925275249256039237)::[])))<(ρ.iv 6)))=true)/\(True->(decide (((ρ.fn 63 ((0:Int)::((ρ.iv 1925275249256039237)::[])))+(1:Int))<(ρ.iv 6)))=true)/\(True->(decide ((0:Int)<(ρ.iv 595631312192478834)))=true)/\(True->(decide ((ρ.iv 595631312192478834)<=(4000000000000:Int)))=true)/\(True->(decide ((-4400000000000000000:Int)<=(IntKind.wrap .i64 ((ρ.iv 735445962742978841)*(ρ.iv 1102493519344395515)))))=true)/\(True->(decide ((IntKind.wrap .i64 ((ρ.iv 735445962742978841)*(ρ.iv 1102493519344395515)))<=(4400000000000000000:Int)))=true)/\True):=by kernel_rfl
theorem XZ (ρ:Env):qA ρ zou=(True/\
 True/\
 True/\
 ρ.iv 406760521677086309=(if(decide ((ρ.fn 1000 (((ρ.iv 4)-(1:Int))::[]))<(ρ.iv 5)))=true then(ρ.fn 1000 (((ρ.iv 4)-(1:Int))::[]))else(ρ.iv 5))/\
 ρ.iv 1925275249256039237=(if((decide ((ρ.iv 5)<(ρ.fn 1000 ((0:Int)::[]))))||(decide ((ρ.fn 1000 (((ρ.iv 4)-(1:Int))::[]))<(ρ.fn 1000 ((0:Int)::[])))))=true then(ρ.fn 1000 ((0:Int)::[]))else(ρ.iv 406760521677086309))/\
 True/\
 True/\
 ρ.iv 595631312192478834=(IntKind.wrap .i64 ((ρ.fn 1000 (((ρ.fn 63 ((0:Int)::((ρ.iv 1925275249256039237)::[])))+(1:Int))::[]))-(ρ.fn 1000 ((ρ.fn 63 ((0:Int)::((ρ.iv 1925275249256039237)::[])))::[]))))/\
 True/\
 ρ.iv 735445962742978841=(IntKind.wrap .i64 ((ρ.iv 1925275249256039237)-(ρ.fn 1000 ((ρ.fn 63 ((0:Int)::((ρ.iv 1925275249256039237)::[])))::[]))))/\
 True/\
 ρ.iv 1102493519344395515=(IntKind.wrap .i64 ((ρ.fn 1100 (((ρ.fn 63 ((0:Int)::((ρ.iv 1925275249256039237)::[])))+(1:Int))::[]))-(ρ.fn 1100 ((ρ.fn 63 ((0:Int)::((ρ.iv 1925275249256039237)::[])))::[]))))/\
 True/\
 True/\
 True/\
 True/\
 ρ.iv 915445799494490897=(IntKind.wrap .i64 ((ρ.fn 1100 ((ρ.fn 63 ((0:Int)::((ρ.iv 1925275249256039237)::[])))::[]))+(ρ.fn 50 ((IntKind.wrap .i64 ((ρ.iv 735445962742978841)*(ρ.iv 1102493519344395515)))::((ρ.iv 595631312192478834)::[])))))/\
 True):=by kernel_rfl
def Qr:List (Nat × List (Nat × List Nat)):=[(18,[(0,[0,1]),(1,[0,1]),(2,[0,1,9]),(3,[0]),(4,[4])]),
 (101,[(0,[1,2]),(1,[1,2,5]),(2,[1,2,5,18]),(3,[4]),(4,[1,2,5,29]),(5,[4]),(6,[1,2,6]),(7,[1,2,6,42]),(8,[1,2,6]),(9,[1,2,6,7]),(10,[4])]),
 (98,[(0,[0,1]),(1,[4])]),
 (134,[(0,[0,1]),(1,[4])])]
def X0:List SV:=[.agg [.osl 0 [.int .i64 (-9223372036854775808) 9223372036854775807] ⟨(.v 4),0,1000⟩,.osl 1 [.int .i64 (-9223372036854775808) 9223372036854775807] ⟨(.v 6),0,1000⟩],.int .i64 ⟨(.v 5),(-9223372036854775808),9223372036854775807⟩]
def zlV:St:=⟨[(6,⟨[],.int .i64 ⟨(.v 13),0,1000⟩⟩),(2,⟨[],.ptr 0 0⟩),(1,⟨[],.int .i64 ⟨(.v 5),(-9223372036854775808),9223372036854775807⟩⟩)],[(0,⟨[],⟨[.osl 0 [.int .i64 (-9223372036854775808) 9223372036854775807] ⟨(.v 4),0,1000⟩,.osl 1 [.int .i64 (-9223372036854775808) 9223372036854775807] ⟨(.v 6),0,1000⟩],24,.full⟩⟩)],1,88⟩
def zqL:List LS:=[⟨[(.bin .le (.ap 1000 (.cons (.bin .sub (.v 4) (.c 1)) .nil)) (.v 5))],.ret,⟨[(4,⟨[],.int .i64 ⟨(.v 900),(-9223372036854775808),9223372036854775807⟩⟩)],[],0,88⟩,⟨[(900,(.ap 1100 (.cons (.bin .sub (.v 4) (.c 1)) .nil)))],[]⟩⟩,
 ⟨[(.bin .le (.v 5) (.ap 1000 (.cons (.c 0) .nil))),(.bin .lt (.v 5) (.ap 1000 (.cons (.bin .sub (.v 4) (.c 1)) .nil)))],.ret,⟨[(4,⟨[],.int .i64 ⟨(.v 900),(-9223372036854775808),9223372036854775807⟩⟩)],[],0,88⟩,⟨[(900,(.ap 1100 (.cons (.c 0) .nil)))],[]⟩⟩,
 ⟨[(.bin .lt (.ap 1000 (.cons (.c 0) .nil)) (.v 5)),(.bin .lt (.v 5) (.ap 1000 (.cons (.bin .sub (.v 4) (.c 1)) .nil)))],.normal,zlV,⟨[(13,(.bin .sub (.v 4) (.c 2)))],[]⟩⟩]
def zp3:List VC:=[⟨[],(pT (pS (.v 4) (.c 1)) (.v 4))⟩,
 ⟨[],(pL (.c 0) (pS (.v 4) (.c 1)))⟩,
 ⟨[(pL (.ap 1000 (.cons (pS (.v 4) (.c 1)) .nil)) (.v 5))],(pT (pS (.v 4) (.c 1)) (.v 6))⟩,
 ⟨[(pL (.ap 1000 (.cons (pS (.v 4) (.c 1)) .nil)) (.v 5))],(pL (.c 0) (pS (.v 4) (.c 1)))⟩,
 ⟨[(pT (.v 5) (.ap 1000 (.cons (pS (.v 4) (.c 1)) .nil)))],(pT (.c 0) (.v 4))⟩,
 ⟨[(pL (.v 5) (.ap 1000 (.cons (.c 0) .nil))),(pT (.v 5) (.ap 1000 (.cons (pS (.v 4) (.c 1)) .nil)))],(pT (.c 0) (.v 6))⟩]
theorem zho:ran (ya Tryz.prog 44 (qb MJ Qr 50 12) 101 (qG Tryz.prog 101 0 7) (start Tryz.prog 101 X0 [] 0)) zqL zp3=true:=by kernel_rfl
def zox:List VC:=[⟨[],(pT (pS (.v 4) (.c 1)) (.v 4))⟩,⟨[],(pL (.c 0) (pS (.v 4) (.c 1)))⟩,⟨[(pL (.ap 1000 (.cons (pS (.v 4) (.c 1)) .nil)) (.v 5))],(pT (pS (.v 4) (.c 1)) (.v 6))⟩,⟨[(pL (.ap 1000 (.cons (pS (.v 4) (.c 1)) .nil)) (.v 5))],(pL (.c 0) (pS (.v 4) (.c 1)))⟩,⟨[(pT (.v 5) (.ap 1000 (.cons (pS (.v 4) (.c 1)) .nil)))],(pT (.c 0) (.v 4))⟩,⟨[(pL (.v 5) (.ap 1000 (.cons (.c 0) .nil))),(pT (.v 5) (.ap 1000 (.cons (pS (.v 4) (.c 1)) .nil)))],(pT (.c 0) (.v 6))⟩]
theorem zcT:qL zp3 [] []=zox:=by kernel_rfl
theorem zlW:zox.all VC.isNo=true:=by kernel_rfl
theorem zoy (ρ:Env):ye ρ zox=((True->(decide (((ρ.iv 4)-(1:Int))<(ρ.iv 4)))=true)/\(True->(decide ((0:Int)<=((ρ.iv 4)-(1:Int))))=true)/\((decide ((ρ.fn 1000 (((ρ.iv 4)-(1:Int))::[]))<=(ρ.iv 5)))=true/\True->(decide (((ρ.iv 4)-(1:Int))<(ρ.iv 6)))=true)/\((decide ((ρ.fn 1000 (((ρ.iv 4)-(1:Int))::[]))<=(ρ.iv 5)))=true/\True->(decide ((0:Int)<=((ρ.iv 4)-(1:Int))))=true)/\((decide ((ρ.iv 5)<(ρ.fn 1000 (((ρ.iv 4)-(1:Int))::[]))))=true/\True->(decide ((0:Int)<(ρ.iv 4)))=true)/\((decide ((ρ.iv 5)<=(ρ.fn 1000 ((0:Int)::[]))))=true/\(decide ((ρ.iv 5)<(ρ.fn 1000 (((ρ.iv 4)-(1:Int))::[]))))=true/\True->(decide ((0:Int)<(ρ.iv 6)))=true)/\True):=by kernel_rfl
theorem zcU (ρ:Env):kJ ρ [(.bin .le (.ap 1000 (.cons (.bin .sub (.v 4) (.c 1)) .nil)) (.v 5))]=((decide ((ρ.fn 1000 (((ρ.iv 4)-(1:Int))::[]))<=(ρ.iv 5)))=true/\True):=by kernel_rfl
theorem zcV (ρ:Env):kJ ρ [(.bin .le (.v 5) (.ap 1000 (.cons (.c 0) .nil))),(.bin .lt (.v 5) (.ap 1000 (.cons (.bin .sub (.v 4) (.c 1)) .nil)))]=((decide ((ρ.iv 5)<=(ρ.fn 1000 ((0:Int)::[]))))=true/\(decide ((ρ.iv 5)<(ρ.fn 1000 (((ρ.iv 4)-(1:Int))::[]))))=true/\True):=by kernel_rfl
theorem zcW (ρ:Env):kJ ρ [(.bin .lt (.ap 1000 (.cons (.c 0) .nil)) (.v 5)),(.bin .lt (.v 5) (.ap 1000 (.cons (.bin .sub (.v 4) (.c 1)) .nil)))]=((decide ((ρ.fn 1000 ((0:Int)::[]))<(ρ.iv 5)))=true/\(decide ((ρ.iv 5)<(ρ.fn 1000 (((ρ.iv 4)-(1:Int))::[]))))=true/\True):=by kernel_rfl
def zqM:List LS:=[⟨[(.bin .lt (.v 5) (.ap 1000 (.cons (.v 13) .nil)))],.normal,zlV,⟨[(13,(.bin .sub (.v 13) (.c 1)))],[]⟩⟩,
 ⟨[(.bin .le (.ap 1000 (.cons (.v 13) .nil)) (.v 5))],(.exit 0),zlV,⟨[],[]⟩⟩]
def zp4:List VC:=[⟨[],(pT (.v 13) (.v 4))⟩]
theorem zhp:ran (ya Tryz.prog 44 (qb MJ Qr 50 12) 101 (k9 Tryz.prog 101 7) zlV) zqM zp4=true:=by kernel_rfl
def zoz:List VC:=[⟨[],(pT (.v 13) (.v 4))⟩]
theorem zcX:qL zp4 [] []=zoz:=by kernel_rfl
theorem zlX:zoz.all VC.isNo=true:=by kernel_rfl
theorem zoA (ρ:Env):ye ρ zoz=((True->(decide ((ρ.iv 13)<(ρ.iv 4)))=true)/\True):=by kernel_rfl
theorem zcY (ρ:Env):kJ ρ [(.bin .lt (.v 5) (.ap 1000 (.cons (.v 13) .nil)))]=((decide ((ρ.iv 5)<(ρ.fn 1000 ((ρ.iv 13)::[]))))=true/\True):=by kernel_rfl
theorem zcZ (ρ:Env):kJ ρ [(.bin .le (.ap 1000 (.cons (.v 13) .nil)) (.v 5))]=((decide ((ρ.fn 1000 ((ρ.iv 13)::[]))<=(ρ.iv 5)))=true/\True):=by kernel_rfl
def zqN:List LS:=[⟨[],.ret,⟨[(4,⟨[],.int .i64 ⟨(.v 900),(-9000000000000000000),9000000000000000000⟩⟩)],[],0,88⟩,⟨[(900,(.ap 50 (.cons (.un (.wrap .i64) (.bin .add (.v 1156344280580782723) (.v 178919818227887957))) (.cons (.v 137219631953655616) .nil))))],[]⟩⟩]
def zoB:List VC:=[⟨[],(pT (pA (.v 13) (.c 1)) (.v 4))⟩,
 ⟨[],(pT (.v 13) (.v 4))⟩,
 qN 137219631953655616 (.un (.wrap .i64) (pS (.ap 1000 (.cons (pA (.v 13) (.c 1)) .nil)) (.ap 1000 (.cons (.v 13) .nil)))),
 ⟨[],(pT (.v 13) (.v 6))⟩,
 qN 1156344280580782723 (.un (.wrap .i64) (pM (.ap 1100 (.cons (.v 13) .nil)) (.un (.wrap .i64) (pS (.ap 1000 (.cons (pA (.v 13) (.c 1)) .nil)) (.v 5))))),
 ⟨[],(pT (pA (.v 13) (.c 1)) (.v 6))⟩,
 qN 178919818227887957 (.un (.wrap .i64) (pM (.ap 1100 (.cons (pA (.v 13) (.c 1)) .nil)) (.un (.wrap .i64) (pS (.v 5) (.ap 1000 (.cons (.v 13) .nil)))))),
 ⟨[],(pT (.c 0) (.v 137219631953655616))⟩,
 ⟨[],(pL (.v 137219631953655616) (.c 4000000000000))⟩,
 ⟨[],(pL (.c (-4400000000000000000)) (.un (.wrap .i64) (pA (.v 1156344280580782723) (.v 178919818227887957))))⟩,
 ⟨[],(pL (.un (.wrap .i64) (pA (.v 1156344280580782723) (.v 178919818227887957))) (.c 4400000000000000000))⟩]
theorem zhq:ran (ya Tryz.prog 44 (qb MJ Qr 50 12) 101 (qG Tryz.prog 101 8 11) zlV) zqN zoB=true:=by kernel_rfl
def zoC:List VC:=[⟨[],(pT (pA (.v 13) (.c 1)) (.v 4))⟩,⟨[],(pT (.v 13) (.v 4))⟩,⟨[],(pT (.v 13) (.v 6))⟩,⟨[],(pT (pA (.v 13) (.c 1)) (.v 6))⟩,⟨[],(pT (.c 0) (.v 137219631953655616))⟩,⟨[],(pL (.v 137219631953655616) (.c 4000000000000))⟩,⟨[],(pL (.c (-4400000000000000000)) (.un (.wrap .i64) (pA (.v 1156344280580782723) (.v 178919818227887957))))⟩,⟨[],(pL (.un (.wrap .i64) (pA (.v 1156344280580782723) (.v 178919818227887957))) (.c 4400000000000000000))⟩]
theorem zc0:qL zoB [] []=zoC:=by kernel_rfl
theorem zlY:zoC.all VC.isNo=true:=by kernel_rfl
theorem zoD (ρ:Env):ye ρ zoC=((True->(decide (((ρ.iv 13)+(1:Int))<(ρ.iv 4)))=true)/\(True->(decide ((ρ.iv 13)<(ρ.iv 4)))=true)/\(True->(decide ((ρ.iv 13)<(ρ.iv 6)))=true)/\(True->(decide (((ρ.iv 13)+(1:Int))<(ρ.iv 6)))=true)/\(True->(decide ((0:Int)<(ρ.iv 137219631953655616)))=true)/\(True->(decide ((ρ.iv 137219631953655616)<=(4000000000000:Int)))=true)/\(True->(decide ((-4400000000000000000:Int)<=(IntKind.wrap .i64 ((ρ.iv 1156344280580782723)+(ρ.iv 178919818227887957)))))=true)/\(True->(decide ((IntKind.wrap .i64 ((ρ.iv 1156344280580782723)+(ρ.iv 178919818227887957)))<=(4400000000000000000:Int)))=true)/\True):=by kernel_rfl
theorem X3 (ρ:Env):qA ρ zoB=(True/\
 True/\
 ρ.iv 137219631953655616=(IntKind.wrap .i64 ((ρ.fn 1000 (((ρ.iv 13)+(1:Int))::[]))-(ρ.fn 1000 ((ρ.iv 13)::[]))))/\
 True/\
 ρ.iv 1156344280580782723=(IntKind.wrap .i64 ((ρ.fn 1100 ((ρ.iv 13)::[]))*(IntKind.wrap .i64 ((ρ.fn 1000 (((ρ.iv 13)+(1:Int))::[]))-(ρ.iv 5)))))/\
 True/\
 ρ.iv 178919818227887957=(IntKind.wrap .i64 ((ρ.fn 1100 (((ρ.iv 13)+(1:Int))::[]))*(IntKind.wrap .i64 ((ρ.iv 5)-(ρ.fn 1000 ((ρ.iv 13)::[]))))))/\
 True/\
 True/\
 True/\
 True/\
 True):=by kernel_rfl
end Go.Proofs.YtoakpnoajmngmaaGreatDoor.Sx
namespace Go.Proofs.YtoakpnoajmngmaaGreatDoor.Sx
open Go.RowKit
structure LTwo (g h:GD) (x:Int) (ρ:Env):Prop where
 std:Std lnF lnB (jc g h) ρ
 l4:ρ.iv 4=g.n
 l6:ρ.iv 6=h.n
 ex:ρ.iv 5=x
 s4:g.n<=1000
 s6:h.n<=1000
theorem LTwo.same {g h:GD} {x:Int} {ρ ρ':Env} (a:LTwo g h x ρ) (hs:Same ρ ρ' [] []):LTwo g h x ρ':=⟨a.std.same hs,(zz hs (n:=4) rfl).trans a.l4,(zz hs (n:=6) rfl).trans a.l6,(zz hs (n:=5) rfl).trans a.ex,a.s4,a.s6⟩
theorem LTwo.f {g h:GD} {x:Int} {ρ:Env} (a:LTwo g h x ρ) (i:Int):ρ.fn 1000 [i]=g.f i.toNat:=a.std.e (k:=0) (j:=0) rfl i
theorem LTwo.g {g h:GD} {x:Int} {ρ:Env} (a:LTwo g h x ρ) (i:Int):ρ.fn 1100 [i]=h.f i.toNat:=a.std.e (k:=1) (j:=0) rfl i
theorem yN {g h:GD} {w:World} (o:g.ok w) (o':h.ok w) (hk:g.ks=[true]) (hk':h.ks=[true]) (hn:g.n<=1000) (hn':h.n<=1000) (x:Int) (b:Bd):∃ρ,LTwo g h x ρ/\Mem ρ (· <w.heap.size) w/\(SV.agg [.osl 0 [.int .i64 (-9223372036854775808) 9223372036854775807] ⟨.v 4,0,1000⟩,.osl 1 [.int .i64 (-9223372036854775808) 9223372036854775807] ⟨.v 6,0,1000⟩]).ok ρ (· <0)/\(SV.agg [.osl 0 [.int .i64 (-9223372036854775808) 9223372036854775807] ⟨.v 4,0,1000⟩,.osl 1 [.int .i64 (-9223372036854775808) 9223372036854775807] ⟨.v 6,0,1000⟩]).den ρ b= .agg #[.slice g.A g.n g.c,.slice h.A h.n h.c]:=by
 obtain⟨⟨q1,q2,q3,q4⟩,q5⟩:=yj (et:=44) (iv:=fun n=>match n with|4=>g.n|5=>x|6=>h.n|_=>0) (bv:=fun _=>false) (fn:=lnF (jc g h)) (fb:=lnB (jc g h)) (fl:=fun _ _=>[]) (zx o o') (k:=0) (m:=4) (sh:=[.int .i64 (-9223372036854775808) 9223372036854775807]) (by show g.ks.map vN=_;rw[hk];rfl) rfl (by show g.ks.length<=100;rw[hk];decide) (· <0) b
 obtain⟨⟨r1,r2,r3,r4⟩,r5⟩:=yj (et:=44) (iv:=fun n=>match n with|4=>g.n|5=>x|6=>h.n|_=>0) (bv:=fun _=>false) (fn:=lnF (jc g h)) (fb:=lnB (jc g h)) (fl:=fun _ _=>[]) (zx o o') (k:=1) (m:=6) (sh:=[.int .i64 (-9223372036854775808) 9223372036854775807]) (by show h.ks.map vN=_;rw[hk'];rfl) rfl (by show h.ks.length<=100;rw[hk'];decide) (· <0) b
 refine⟨ja 44 (fun n=>match n with|4=>g.n|5=>x|6=>h.n|_=>0) (fun _=>false) (lnF (jc g h)) (lnB (jc g h)) (fun _ _=>[]) (jc g h),⟨Std.gen () _ _ _,rfl,rfl,rfl,hn,hn'⟩,wQ (zx o o'),⟨⟨⟨q1.1,by show(g.n:Int)<=1000;omega⟩,by decide,q3,q4⟩,⟨⟨r1.1,by show(h.n:Int)<=1000;omega⟩,by decide,r3,r4⟩,trivial⟩,?_⟩
 rw[zA]
 simp only[SV.denL]
 have q5':(SV.osl 0 [.int .i64 (-9223372036854775808) 9223372036854775807] ⟨.v 4,0,1000⟩).den (ja 44 (fun n=>match n with|4=>g.n|5=>x|6=>h.n|_=>0) (fun _=>false) (lnF (jc g h)) (lnB (jc g h)) (fun _ _=>[]) (jc g h)) b= .slice g.A g.n g.c:=q5
 have r5':(SV.osl 1 [.int .i64 (-9223372036854775808) 9223372036854775807] ⟨.v 6,0,1000⟩).den (ja 44 (fun n=>match n with|4=>g.n|5=>x|6=>h.n|_=>0) (fun _=>false) (lnF (jc g h)) (lnB (jc g h)) (fun _ _=>[]) (jc g h)) b= .slice h.A h.n h.c:=r5
 rw[q5',r5']
theorem Qs {f:Nat->Int} {n:Nat} {g:Nat->Int} {m:Nat} (h:¬n=m):zC f n g m=3:=by unfold zC;rw[if_pos h]
theorem Qt {f:Nat->Int} {n:Nat} {g:Nat->Int} {m:Nat} (h:n=m):zC f n g m=if zR f n=0 then z7 g m else zR f n:=by unfold zC por;rw[if_neg (by omega)]
theorem qw (f:Nat->Int) (n:Nat) (g:Nat->Int) (m:Nat):0<=zC f n g m/\zC f n g m<=5:=by
 by_cases h:n=m
 ·rw[Qt h]
  have h1:=kn f n
  have h2:=yq g m
  split<;>omega
 ·rw[Qs h];omega
theorem MN {m d B:Int} (hd:0<d) (h1: -(B*d)<=m) (h2:m<=B*d): -B<=Za m d/\Za m d<=B:=by
 unfold Za
 constructor
 ·refine Int.le_ediv_of_mul_le (by omega) ?_
  have e: -B*(2*d)= -(2*(B*d)):=by rw[Int.neg_mul,Int.mul_left_comm]
  rw[e];omega
 ·have:(2*m+d)/(2*d)<B+1:=by
   refine Int.ediv_lt_of_lt_mul (by omega) ?_
   have e:(B+1)*(2*d)=2*(B*d)+2*d:=by rw[Int.add_mul,Int.one_mul,Int.mul_left_comm]
   rw[e];omega
  omega
theorem w64 (n:Int) (h1: -9223372036854775808<=n) (h2:n<=9223372036854775807):IntKind.wrap .i64 n=n:=IntWalk.i64_in n ⟨h1,h2⟩
theorem Qu {a b A B:Int} (h1: -A<=a) (h2:a<=A) (h3: -B<=b) (h4:b<=B): -(A*B)<=a*b/\a*b<=A*B:=by
 have hA:0<=A:=by omega
 have hB:0<=B:=by omega
 have k1:a.natAbs<=A.natAbs:=by omega
 have k2:b.natAbs<=B.natAbs:=by omega
 have k3:=Nat.mul_le_mul k1 k2
 rw[<-Int.natAbs_mul,<-Int.natAbs_mul]at k3
 have:0<=A*B:=Int.mul_nonneg hA hB
 omega
theorem X4 {f:Nat->Int} {n:Nat} (hn:2<=n) (hr:js f n) {x:Int} (h1:f 0<=x) (h2:x<=f (n-1)) {i:Nat} (hi:yJ f n x i):i+2<=n/\f i<=x/\x<=f (i+1):=by
 obtain⟨a1,a2,a3⟩:=hi
 refine⟨a1,?_,?_⟩
 ·cases i with
  |zero=>exact h1
  |succ i=>exact a2 i (Nat.lt_succ_self i)
 ·by_cases h:i+2<n
  ·have:=a3 h;omega
  ·have e:n-1=i+1:=by omega
   rw[e]at h2;exact h2
set_option maxRecDepth 100000 in
set_option maxHeartbeats 1000000 in
theorem Zn (g d:GD) (hk:g.ks=[true]) (hk':d.ks=[true]) (hn:g.n<=1000) (hn':d.n<=1000) (w:World) (o:g.ok w) (o':d.ok w):
  Calls Tryz.prog 152 #[.agg #[.slice g.A g.n g.c,.slice d.A d.n d.c]] w fun e w'=>e= .returned (qp (zC g.f g.n d.f d.n))/\Below w.heap.size w w':=by
 obtain⟨ρ0,h0,hm,s1,s2⟩:=yN o o' hk hk' hn hn' 0 ⟨fun _=>0,fun _=>0,fun _=>0⟩
 have key:=kq (P:=Tryz.prog) (cfg:=qb zhi MK 50 12) Tryz.func152 rfl (args:=XW) (H:=[]) (nx:=0) zhl zcO zlS (V:=qp (zC g.f g.n d.f d.n)) (LTwo g d 0)
  (fun ρ h=>⟨h.std.et,zlP h.std (zx o o') (kP hk hk')⟩) (fun ρ ρ' h hs=>h.same hs) (by kernel_rfl)
  (fun ρ h=>by
   have h1:=h.l4
   have h2:=h.s4
   have h3:=h.l6
   have h4:=h.s6
   refine List.forall_mem_cons.2 ⟨?_,List.forall_mem_cons.2 ⟨?_,fun _ h=>nomatch h⟩⟩
   ·exact zg (z:=ρ.iv 4) rfl (by show(0:Int)<=ρ.iv 4;omega) (by show ρ.iv 4<=1000;omega)
   ·exact zg (z:=ρ.iv 6) rfl (by show(0:Int)<=ρ.iv 6;omega) (by show ρ.iv 6<=1000;omega))
  (fun ρ h hv=>Eq.mpr (zoq ρ) (by
   trivial))
  (by
   refine List.forall_mem_cons.2 ⟨?_,fun _ h=>nomatch h⟩
   ·intro ρ h hv hp
    obtain⟨h0,_⟩:=Eq.mp (zcP ρ) hv
    have e1:ρ.fn 61 [0]=zR g.f g.n:=by rw[h.std.f rfl];rfl
    have e2:ρ.fn 60 [1]=z7 d.f d.n:=by rw[h.std.f rfl];rfl
    have hz:(if(!(decide (ρ.iv 4=ρ.iv 6)))=true then 3 else ρ.iv 1768319584019362276)=zC g.f g.n d.f d.n:=by
     rw[h0,e1,e2,h.l4,h.l6]
     by_cases hc:g.n=d.n
     ·rw[Qt hc]
      simp only[hc,decide_true,Bool.not_true,Bool.false_eq_true,if_false]
      by_cases hp:zR g.f d.n=0<;>simp[hp]
     ·rw[Qs hc]
      have:decide ((g.n:Int)=d.n)=false:=decide_eq_false (by omega)
      rw[this]
      rfl
    refine⟨.inr rfl,List.forall_mem_cons.2 ⟨?_,fun _ h=>nomatch h⟩,[.err ⟨(.v 900),0,5⟩],by kernel_rfl,fun b=>?_⟩
    ·exact zg (z:=zC g.f g.n d.f d.n) hz (qw _ _ _ _).1 (qw _ _ _ _).2
    ·show(if(ρ.sub _).iv 900=0 then Value.nilIface else .iface (ρ.sub _).et (.int .i64 ((ρ.sub _).iv 900)))=qp _
     rw[<-hz]
     show(if(if(!(decide (ρ.iv 4=ρ.iv 6)))=true then 3 else ρ.iv 1768319584019362276)=0 then Value.nilIface else .iface ρ.et (.int .i64 (if(!(decide (ρ.iv 4=ρ.iv 6)))=true then 3 else ρ.iv 1768319584019362276)))=_
     rw[h.std.et]
     rfl)
  h0 ⟨fun _=>0,fun _=>0,fun _=>0⟩ w (qU _ _ _ _) ⟨s1,trivial⟩ hm
 have e:SV.denL ρ0 ⟨fun _=>0,fun _=>0,fun _=>0⟩ XW=[.agg #[.slice g.A g.n g.c,.slice d.A d.n d.c]]:=by
  unfold XW
  simp only[SV.denL]
  rw[s2]
 rw[e]at key
 exact key
set_option maxRecDepth 100000 in
set_option maxHeartbeats 1000000 in
theorem Vt (g d:GD) (hk:g.ks=[true]) (hk':d.ks=[true]) (hn:g.n<=1000) (hn':d.n<=1000) (w:World) (o:g.ok w) (o':d.ok w):
  Calls Tryz.prog 97 #[.agg #[.slice g.A g.n g.c,.slice d.A d.n d.c]] w fun e w'=>e= .returned (.int .i64 (zC g.f g.n d.f d.n))/\Below w.heap.size w w':=by
 obtain⟨ρ0,h0,hm,s1,s2⟩:=yN o o' hk hk' hn hn' 0 ⟨fun _=>0,fun _=>0,fun _=>0⟩
 have key:=kq (P:=Tryz.prog) (cfg:=qb zhj ML 50 12) Tryz.func97 rfl (args:=XX) (H:=[]) (nx:=0) zhm zcQ zlT (V:= .int .i64 (zC g.f g.n d.f d.n)) (LTwo g d 0)
  (fun ρ h=>⟨h.std.et,zlQ h.std (zx o o') (kP hk hk')⟩) (fun ρ ρ' h hs=>h.same hs) (by kernel_rfl)
  (fun ρ h=>by
   have h1:=h.l4
   have h2:=h.s4
   have h3:=h.l6
   have h4:=h.s6
   refine List.forall_mem_cons.2 ⟨?_,List.forall_mem_cons.2 ⟨?_,fun _ h=>nomatch h⟩⟩
   ·exact zg (z:=ρ.iv 4) rfl (by show(0:Int)<=ρ.iv 4;omega) (by show ρ.iv 4<=1000;omega)
   ·exact zg (z:=ρ.iv 6) rfl (by show(0:Int)<=ρ.iv 6;omega) (by show ρ.iv 6<=1000;omega))
  (fun ρ h hv=>Eq.mpr (zot ρ) (by
   trivial))
  (by
   refine List.forall_mem_cons.2 ⟨?_,fun _ h=>nomatch h⟩
   ·intro ρ h hv hp
    obtain⟨h0,_⟩:=Eq.mp (zcR ρ) hv
    have e1:ρ.fn 61 [0]=zR g.f g.n:=by rw[h.std.f rfl];rfl
    have e2:ρ.fn 60 [1]=z7 d.f d.n:=by rw[h.std.f rfl];rfl
    have hz:ρ.iv 382609464082087397=zC g.f g.n d.f d.n:=by
     rw[h0,e1,e2,h.l4,h.l6]
     by_cases hc:g.n=d.n
     ·rw[Qt hc]
      simp only[hc,decide_true,Bool.not_true,Bool.false_eq_true,if_false]
      by_cases hp:zR g.f d.n=0
      ·by_cases hq:z7 d.f d.n=0<;>simp[hp,hq]
      ·simp[hp]
     ·rw[Qs hc]
      have:decide ((g.n:Int)=d.n)=false:=decide_eq_false (by omega)
      rw[this]
      rfl
    refine⟨.inr rfl,List.forall_mem_cons.2 ⟨?_,fun _ h=>nomatch h⟩,[.int .i64 ⟨(.v 900),0,5⟩],by kernel_rfl,fun b=>?_⟩
    ·exact zg (z:=zC g.f g.n d.f d.n) hz (qw _ _ _ _).1 (qw _ _ _ _).2
    ·show Value.int .i64 (ρ.iv 382609464082087397)=_
     rw[hz])
  h0 ⟨fun _=>0,fun _=>0,fun _=>0⟩ w (qU _ _ _ _) ⟨s1,trivial⟩ hm
 have e:SV.denL ρ0 ⟨fun _=>0,fun _=>0,fun _=>0⟩ XX=[.agg #[.slice g.A g.n g.c,.slice d.A d.n d.c]]:=by
  unfold XX
  simp only[SV.denL]
  rw[s2]
 rw[e]at key
 exact key
theorem Zo {g d:GD} {x:Int} {ρ:Env} (h:LTwo g d x ρ) (hp:zC g.f g.n d.f d.n=0)
  (h3:ρ.iv 406760521677086309=(if(decide ((ρ.fn 1000 (((ρ.iv 4)-(1:Int))::[]))<(ρ.iv 5)))=true then(ρ.fn 1000 (((ρ.iv 4)-(1:Int))::[]))else(ρ.iv 5)))
  (h4:ρ.iv 1925275249256039237=(if((decide ((ρ.iv 5)<(ρ.fn 1000 ((0:Int)::[]))))||(decide ((ρ.fn 1000 (((ρ.iv 4)-(1:Int))::[]))<(ρ.fn 1000 ((0:Int)::[])))))=true then(ρ.fn 1000 ((0:Int)::[]))else(ρ.iv 406760521677086309)))
  (h7:ρ.iv 595631312192478834=(IntKind.wrap .i64 ((ρ.fn 1000 (((ρ.fn 63 ((0:Int)::((ρ.iv 1925275249256039237)::[])))+(1:Int))::[]))-(ρ.fn 1000 ((ρ.fn 63 ((0:Int)::((ρ.iv 1925275249256039237)::[])))::[])))))
  (h9:ρ.iv 735445962742978841=(IntKind.wrap .i64 ((ρ.iv 1925275249256039237)-(ρ.fn 1000 ((ρ.fn 63 ((0:Int)::((ρ.iv 1925275249256039237)::[])))::[])))))
  (h11:ρ.iv 1102493519344395515=(IntKind.wrap .i64 ((ρ.fn 1100 (((ρ.fn 63 ((0:Int)::((ρ.iv 1925275249256039237)::[])))+(1:Int))::[]))-(ρ.fn 1100 ((ρ.fn 63 ((0:Int)::((ρ.iv 1925275249256039237)::[])))::[])))))
  (h16:ρ.iv 915445799494490897=(IntKind.wrap .i64 ((ρ.fn 1100 ((ρ.fn 63 ((0:Int)::((ρ.iv 1925275249256039237)::[])))::[]))+(ρ.fn 50 ((IntKind.wrap .i64 ((ρ.iv 735445962742978841)*(ρ.iv 1102493519344395515)))::((ρ.iv 595631312192478834)::[])))))):
  (0<ρ.iv 4/\ρ.fn 63 [0,ρ.iv 1925275249256039237]+1<ρ.iv 4/\ρ.iv 6=ρ.iv 4/\0<ρ.iv 595631312192478834/\ρ.iv 595631312192478834<=4000000000000/\ -4400000000000000000<=IntKind.wrap .i64 (ρ.iv 735445962742978841*ρ.iv 1102493519344395515)/\IntKind.wrap .i64 (ρ.iv 735445962742978841*ρ.iv 1102493519344395515)<=4400000000000000000)/\ρ.iv 915445799494490897=qa g.f d.f g.n x/\ -4000000<=qa g.f d.f g.n x/\qa g.f d.f g.n x<=4000000:=by
 obtain⟨hnn,n2,n8,wf,rf,wg⟩:=jX hp
 have l4:=h.l4
 have l6:=h.l6
 have e0:ρ.fn 1000 [0]=g.f 0:=h.f 0
 have eL:ρ.fn 1000 [ρ.iv 4-1]=g.f (g.n-1):=by rw[h.f];congr 1;omega
 have f0L:=vu rf 0 (g.n-1) (by omega) (by omega)
 have y2:ρ.iv 1925275249256039237=zm x (g.f 0) (g.f (g.n-1)):=by
  rw[h4,h3,e0,eL,h.ex]
  unfold zm
  simp only[Bool.or_eq_true,decide_eq_true_eq]
 generalize hX:zm x (g.f 0) (g.f (g.n-1))=X at*
 have X1:g.f 0<=X:=by rw[<-hX];unfold zm;split<;>(try split)<;>omega
 have X2:X<=g.f (g.n-1):=by rw[<-hX];unfold zm;split<;>(try split)<;>omega
 have e63:ρ.fn 63 [0,ρ.iv 1925275249256039237]=(ppc g.f X (g.n-2) 0:Int):=by rw[h.std.f rfl,y2];rfl
 have hi:=zbg g.f X g.n (g.n-2) 0 (by omega) (fun j hj=>absurd hj (Nat.not_lt_zero j))
 generalize hI:ppc g.f X (g.n-2) 0=i at*
 obtain⟨i1,i2,i3⟩:=X4 n2 rf X1 X2 hi
 have f1:ρ.fn 1000 [(i:Int)]=g.f i:=by rw[h.f];congr 1
 have f2:ρ.fn 1000 [(i:Int)+1]=g.f (i+1):=by rw[h.f];congr 1
 have g1:ρ.fn 1100 [(i:Int)]=d.f i:=by rw[h.g];congr 1
 have g2:ρ.fn 1100 [(i:Int)+1]=d.f (i+1):=by rw[h.g];congr 1
 have b1:=wf i (by omega)
 have b2:=wf (i+1) (by omega)
 have b3:=wg i (by omega)
 have b4:=wg (i+1) (by omega)
 have b5:=rf i (by omega)
 rw[e63]at h7 h9 h11 h16
 rw[f1,f2,w64 _ (by omega) (by omega)]at h7
 rw[f1,y2,w64 _ (by omega) (by omega)]at h9
 rw[g1,g2,w64 _ (by omega) (by omega)]at h11
 have m1:=Qu (a:=X-g.f i) (b:=d.f (i+1)-d.f i) (A:=2000000) (B:=2000000) (by omega) (by omega) (by omega) (by omega)
 have m2:=Qu (a:=d.f (i+1)-d.f i) (b:=X-g.f i) (A:=2000000) (B:=g.f (i+1)-g.f i) (by omega) (by omega) (by omega) (by omega)
 rw[Int.mul_comm (d.f (i+1)-d.f i)]at m2
 have m3:=MN (m:=(X-g.f i)*(d.f (i+1)-d.f i)) (d:=g.f (i+1)-g.f i) (B:=2000000) (by omega) m2.1 m2.2
 have hpl:qa g.f d.f g.n x=d.f i+Za ((X-g.f i)*(d.f (i+1)-d.f i)) (g.f (i+1)-g.f i):=by
  rw[gx (i:=i) (by rw[hX];exact hi),hX]
  rfl
 rw[g1,h9,h11,h7,w64 ((X-g.f i)*(d.f (i+1)-d.f i)) (by omega) (by omega)]at h16
 have e50:ρ.fn 50 [(X-g.f i)*(d.f (i+1)-d.f i),g.f (i+1)-g.f i]=Za ((X-g.f i)*(d.f (i+1)-d.f i)) (g.f (i+1)-g.f i):=by rw[h.std.f rfl];rfl
 rw[e50,w64 _ (by omega) (by omega)]at h16
 rw[h9,h11,h7,e63,w64 ((X-g.f i)*(d.f (i+1)-d.f i)) (by omega) (by omega)]
 exact⟨⟨by omega,by omega,by omega,by omega,by omega,by omega,by omega⟩,h16.trans hpl.symm,by omega,by omega⟩
set_option maxRecDepth 100000 in
set_option maxHeartbeats 1000000 in
theorem Zp (g d:GD) (hk:g.ks=[true]) (hk':d.ks=[true]) (hn:g.n<=1000) (hn':d.n<=1000) (x:Int) (hx:B64 x) (hpl:zC g.f g.n d.f d.n=0) (w:World) (o:g.ok w) (o':d.ok w):
  Calls Tryz.prog 163 #[.agg #[.slice g.A g.n g.c,.slice d.A d.n d.c],.int .i64 x] w fun e w'=>e= .returned (.int .i64 (qa g.f d.f g.n x))/\Below w.heap.size w w':=by
 obtain⟨ρ0,h0,hm,s1,s2⟩:=yN o o' hk hk' hn hn' x ⟨fun _=>0,fun _=>0,fun _=>0⟩
 obtain⟨hnn,n2,n8,wf,rf,wg⟩:=jX hpl
 have key:=kq (P:=Tryz.prog) (cfg:=qb zhk MM 50 12) Tryz.func163 rfl (args:=XY) (H:=[]) (nx:=0) zhn zcS zlU (V:= .int .i64 (qa g.f d.f g.n x)) (LTwo g d x)
  (fun ρ h=>⟨h.std.et,zlR h.std (zx o o') (kP hk hk')⟩) (fun ρ ρ' h hs=>h.same hs) (by kernel_rfl)
  (fun ρ h=>by
   have h1:=h.l4
   have h2:=h.s4
   have h3:=h.l6
   have h4:=h.s6
   have h5:=h.ex
   have h6:=hx.1
   have h7:=hx.2
   refine List.forall_mem_cons.2 ⟨?_,List.forall_mem_cons.2 ⟨?_,List.forall_mem_cons.2 ⟨?_,fun _ h=>nomatch h⟩⟩⟩
   ·exact zg (z:=ρ.iv 4) rfl (by show(0:Int)<=ρ.iv 4;omega) (by show ρ.iv 4<=1000;omega)
   ·exact zg (z:=ρ.iv 6) rfl (by show(0:Int)<=ρ.iv 6;omega) (by show ρ.iv 6<=1000;omega)
   ·exact zg (z:=ρ.iv 5) rfl (by show(-9223372036854775808:Int)<=ρ.iv 5;omega) (by show ρ.iv 5<=9223372036854775807;omega))
  (fun ρ h hv=>Eq.mpr (zow ρ) (by
   obtain⟨h0,h1,h2,h3,h4,h5,h6,h7,h8,h9,h10,h11,h12,h13,h14,h15,h16,_⟩:=Eq.mp (XZ ρ) hv
   obtain⟨⟨u0,u1,u2,u3,u4,u5,u6⟩,u7,u8,u9⟩:=Zo h hpl h3 h4 h7 h9 h11 h16
   exact⟨fun _=>decide_eq_true u0,fun _=>decide_eq_true (by omega),fun _=>decide_eq_true (by omega),fun _=>decide_eq_true u1,fun _=>decide_eq_true (by omega),fun _=>decide_eq_true (by omega),fun _=>decide_eq_true (by omega),fun _=>decide_eq_true u3,fun _=>decide_eq_true u4,fun _=>decide_eq_true u5,fun _=>decide_eq_true u6,trivial⟩))
  (by
   refine List.forall_mem_cons.2 ⟨?_,fun _ h=>nomatch h⟩
   ·intro ρ h hv hp
    obtain⟨h0,h1,h2,h3,h4,h5,h6,h7,h8,h9,h10,h11,h12,h13,h14,h15,h16,_⟩:=Eq.mp (XZ ρ) hv
    obtain⟨⟨u0,u1,u2,u3,u4,u5,u6⟩,u7,u8,u9⟩:=Zo h hpl h3 h4 h7 h9 h11 h16
    refine⟨.inr rfl,List.forall_mem_cons.2 ⟨?_,fun _ h=>nomatch h⟩,[.int .i64 ⟨(.v 900),(-9223372036854775808),9223372036854775807⟩],by kernel_rfl,fun b=>?_⟩
    ·exact zg (z:=qa g.f d.f g.n x) u7 (by show(-9223372036854775808:Int)<=_;omega) (by show _<=(9223372036854775807:Int);omega)
    ·show Value.int .i64 (ρ.iv 915445799494490897)=_
     rw[u7])
  h0 ⟨fun _=>0,fun _=>0,fun _=>0⟩ w (qU _ _ _ _) ⟨s1,⟨by show _<=ρ0.iv 5;rw[h0.ex];exact hx.1,by show ρ0.iv 5<=_;rw[h0.ex];exact hx.2⟩,trivial⟩ hm
 have e:SV.denL ρ0 ⟨fun _=>0,fun _=>0,fun _=>0⟩ XY=[.agg #[.slice g.A g.n g.c,.slice d.A d.n d.c],.int .i64 x]:=by
  unfold XY
  simp only[SV.denL]
  rw[s2]
  simp only[SV.den,E.i,h0.ex]
 rw[e]at key
 exact key
structure RLookI (g d:GD) (x:Int) (ρ:Env):Prop where
 two:LTwo g d x ρ
 lo:0<=ρ.iv 13
 hi:ρ.iv 13+2<=g.n
 first:g.f 0<x
 last:x<g.f (g.n-1)
 below:x<g.f ((ρ.iv 13).toNat+1)
structure RLookI2 (g d:GD) (x:Int) (ρ:Env):Prop where
 i:RLookI g d x ρ
 at_:g.f (ρ.iv 13).toNat<=x
theorem RLookI.same {g d:GD} {x:Int} {ρ ρ':Env} (h:RLookI g d x ρ) (hs:Same ρ ρ' [] []):RLookI g d x ρ'/\(ρ'.iv 13).toNat=(ρ.iv 13).toNat:=by
 have e:=zz hs (n:=13) rfl
 exact⟨⟨h.two.same hs,by rw[e];exact h.lo,by rw[e];exact h.hi,h.first,h.last,by rw[e];exact h.below⟩,by rw[e]⟩
theorem wT {g d:GD} {x:Int} {ρ:Env} (hI:RLookI2 g d x ρ) (hpl:zC g.f g.n d.f d.n=0)
  (h2:ρ.iv 137219631953655616=(IntKind.wrap .i64 ((ρ.fn 1000 (((ρ.iv 13)+(1:Int))::[]))-(ρ.fn 1000 ((ρ.iv 13)::[])))))
  (h4:ρ.iv 1156344280580782723=(IntKind.wrap .i64 ((ρ.fn 1100 ((ρ.iv 13)::[]))*(IntKind.wrap .i64 ((ρ.fn 1000 (((ρ.iv 13)+(1:Int))::[]))-(ρ.iv 5))))))
  (h6:ρ.iv 178919818227887957=(IntKind.wrap .i64 ((ρ.fn 1100 (((ρ.iv 13)+(1:Int))::[]))*(IntKind.wrap .i64 ((ρ.iv 5)-(ρ.fn 1000 ((ρ.iv 13)::[]))))))):
  (ρ.iv 6=ρ.iv 4/\ρ.iv 13+1<ρ.iv 4/\0<ρ.iv 137219631953655616/\ρ.iv 137219631953655616<=4000000000000/\ -4400000000000000000<=IntKind.wrap .i64 (ρ.iv 1156344280580782723+ρ.iv 178919818227887957)/\IntKind.wrap .i64 (ρ.iv 1156344280580782723+ρ.iv 178919818227887957)<=4400000000000000000)/\ρ.fn 50 [IntKind.wrap .i64 (ρ.iv 1156344280580782723+ρ.iv 178919818227887957),ρ.iv 137219631953655616]=qa g.f d.f g.n x/\ -9000000000000000000<=qa g.f d.f g.n x/\qa g.f d.f g.n x<=9000000000000000000:=by
 obtain⟨hnn,n2,n8,wf,rf,wg⟩:=jX hpl
 obtain⟨h,hat⟩:=hI
 have lo:=h.lo
 have hi:=h.hi
 have l4:=h.two.l4
 have l6:=h.two.l6
 obtain⟨i,hi0⟩:∃i:Nat,ρ.iv 13=i:=⟨(ρ.iv 13).toNat,by omega⟩
 have bel:=h.below
 rw[hi0]at hat bel h2 h4 h6 hi ⊢
 rw[Int.toNat_natCast]at hat bel
 have f1:ρ.fn 1000 [(i:Int)]=g.f i:=by rw[h.two.f];congr 1
 have f2:ρ.fn 1000 [(i:Int)+1]=g.f (i+1):=by rw[h.two.f];congr 1
 have g1:ρ.fn 1100 [(i:Int)]=d.f i:=by rw[h.two.g];congr 1
 have g2:ρ.fn 1100 [(i:Int)+1]=d.f (i+1):=by rw[h.two.g];congr 1
 have b1:=wf i (by omega)
 have b2:=wf (i+1) (by omega)
 have b3:=wg i (by omega)
 have b4:=wg (i+1) (by omega)
 rw[f1,f2,w64 _ (by omega) (by omega)]at h2
 rw[g1,f2,h.two.ex,w64 (g.f (i+1)-x) (by omega) (by omega)]at h4
 rw[g2,f1,h.two.ex,w64 (x-g.f i) (by omega) (by omega)]at h6
 have m1:=Qu (a:=d.f i) (b:=g.f (i+1)-x) (A:=1000000) (B:=2000000) (by omega) (by omega) (by omega) (by omega)
 have m2:=Qu (a:=d.f (i+1)) (b:=x-g.f i) (A:=1000000) (B:=2000000) (by omega) (by omega) (by omega) (by omega)
 rw[w64 _ (by omega) (by omega)]at h4 h6
 have hm:=zbh rf h.first h.last (i:=i) (by omega) hat bel (g:=d.f)
 have e50:ρ.fn 50 [d.f i*(g.f (i+1)-x)+d.f (i+1)*(x-g.f i),g.f (i+1)-g.f i]=zez g.f d.f i x:=by rw[h.two.std.f rfl];rfl
 have hb:=XV (n:=d.f i*(g.f (i+1)-x)+d.f (i+1)*(x-g.f i)) (d:=g.f (i+1)-g.f i) (by omega) (by omega) (by omega)
 rw[h4,h6,h2,w64 (d.f i*(g.f (i+1)-x)+d.f (i+1)*(x-g.f i)) (by omega) (by omega),hm]
 exact⟨⟨by omega,by omega,by omega,by omega,by omega,by omega⟩,e50,hb.1,hb.2⟩
set_option maxRecDepth 100000 in
set_option maxHeartbeats 1000000 in
theorem X5 (g d:GD) (hk:g.ks=[true]) (hk':d.ks=[true]) (hn:g.n<=1000) (hn':d.n<=1000) (x:Int) (hx:B64 x) (hpl:zC g.f g.n d.f d.n=0) (w:World) (o:g.ok w) (o':d.ok w):
  Calls Tryz.prog 101 #[.agg #[.slice g.A g.n g.c,.slice d.A d.n d.c],.int .i64 x] w fun e w'=>e= .returned (.int .i64 (qa g.f d.f g.n x))/\Below w.heap.size w w':=by
 obtain⟨ρ0,h0,hm,s1,s2⟩:=yN o o' hk hk' hn hn' x ⟨fun _=>0,fun _=>0,fun _=>0⟩
 obtain⟨hnn,n2,n8,wf,rf,wg⟩:=jX hpl
 have key:=jh (P:=Tryz.prog) (cfg:=qb MJ Qr 50 12) Tryz.func101 rfl (k:=7) (i:=0) (n:=11) (by decide+kernel) (by kernel_rfl) (args:=X0) (H:=[]) (nx:=0) zho zcT zlW zhp zcX zlX zhq zc0 zlY (V:= .int .i64 (qa g.f d.f g.n x)) (LTwo g d x) (RLookI g d x) (RLookI2 g d x) (fun ρ=>(ρ.iv 13).toNat)
  (fun ρ h=>⟨h.std.et,zfc h.std⟩) (fun ρ h=>⟨h.two.std.et,zfc h.two.std⟩) (fun ρ ρ' h hs=>h.same hs) (fun ρ ρ' h hs=>h.same hs) (fun ρ h=>h.i) (fun ρ ρ' h hs=>⟨(h.i.same hs).1,by rw[zz hs (n:=13) rfl];exact h.at_⟩) (by kernel_rfl)
  (fun ρ h=>by
   have h1:=h.l4
   have h2:=h.s4
   have h3:=h.l6
   have h4:=h.s6
   have h5:=h.ex
   have h6:=hx.1
   have h7:=hx.2
   refine List.forall_mem_cons.2 ⟨?_,List.forall_mem_cons.2 ⟨?_,List.forall_mem_cons.2 ⟨?_,fun _ h=>nomatch h⟩⟩⟩
   ·exact zg (z:=ρ.iv 4) rfl (by show(0:Int)<=ρ.iv 4;omega) (by show ρ.iv 4<=1000;omega)
   ·exact zg (z:=ρ.iv 6) rfl (by show(0:Int)<=ρ.iv 6;omega) (by show ρ.iv 6<=1000;omega)
   ·exact zg (z:=ρ.iv 5) rfl (by show(-9223372036854775808:Int)<=ρ.iv 5;omega) (by show ρ.iv 5<=9223372036854775807;omega))
  (fun ρ h=>by
   have h1:=h.lo
   have h2:=h.hi
   have h3:=h.two.l4
   have h4:=h.two.s4
   have h5:=h.two.l6
   have h6:=h.two.s6
   have h7:=h.two.ex
   have h8:=hx.1
   have h9:=hx.2
   refine List.forall_mem_cons.2 ⟨?_,List.forall_mem_cons.2 ⟨?_,List.forall_mem_cons.2 ⟨?_,List.forall_mem_cons.2 ⟨?_,fun _ h=>nomatch h⟩⟩⟩⟩
   ·exact zg (z:=ρ.iv 13) rfl (by show(0:Int)<=ρ.iv 13;omega) (by show ρ.iv 13<=1000;omega)
   ·exact zg (z:=ρ.iv 5) rfl (by show(-9223372036854775808:Int)<=ρ.iv 5;omega) (by show ρ.iv 5<=9223372036854775807;omega)
   ·exact zg (z:=ρ.iv 4) rfl (by show(0:Int)<=ρ.iv 4;omega) (by show ρ.iv 4<=1000;omega)
   ·exact zg (z:=ρ.iv 6) rfl (by show(0:Int)<=ρ.iv 6;omega) (by show ρ.iv 6<=1000;omega))
  (fun ρ h hv=>Eq.mpr (zoy ρ) (by
   have h1:=h.l4
   have h3:=h.l6
   exact⟨fun _=>decide_eq_true (by omega),fun _=>decide_eq_true (by omega),fun _=>decide_eq_true (by omega),fun _=>decide_eq_true (by omega),fun _=>decide_eq_true (by omega),fun _=>decide_eq_true (by omega),trivial⟩))
  (fun ρ h hv=>Eq.mpr (zoA ρ) (by
   have h1:=h.hi
   have h3:=h.two.l4
   exact⟨fun _=>decide_eq_true (by omega),trivial⟩))
  (fun ρ h hv=>Eq.mpr (zoD ρ) (by
   obtain⟨h0,h1,h2,h3,h4,h5,h6,h7,h8,h9,h10,_⟩:=Eq.mp (X3 ρ) hv
   obtain⟨⟨u0,u1,u2,u3,u4,u5⟩,u6,u7,u8⟩:=wT h hpl h2 h4 h6
   exact⟨fun _=>decide_eq_true u1,fun _=>decide_eq_true (by omega),fun _=>decide_eq_true (by omega),fun _=>decide_eq_true (by omega),fun _=>decide_eq_true u2,fun _=>decide_eq_true u3,fun _=>decide_eq_true u4,fun _=>decide_eq_true u5,trivial⟩))
  (by
   refine List.forall_mem_cons.2 ⟨?_,List.forall_mem_cons.2 ⟨?_,List.forall_mem_cons.2 ⟨?_,fun _ h=>nomatch h⟩⟩⟩
   ·intro ρ h hv hp
    obtain⟨c0,_⟩:=Eq.mp (zcU ρ) hp
    have l4:=h.l4
    have eL:ρ.fn 1000 [ρ.iv 4-1]=g.f (g.n-1):=by rw[h.f];congr 1;omega
    have gL:ρ.fn 1100 [ρ.iv 4-1]=d.f (g.n-1):=by rw[h.g];congr 1;omega
    have bL:=wg (g.n-1) (by omega)
    rw[eL,h.ex]at c0
    have c0:=of_decide_eq_true c0
    have hpk:=Wa n2 rf c0 (g:=d.f)
    refine .inl ⟨rfl,List.forall_mem_cons.2 ⟨?_,fun _ h=>nomatch h⟩,[.int .i64 ⟨(.v 900),(-9223372036854775808),9223372036854775807⟩],by kernel_rfl,fun b=>?_⟩
    ·exact zg (z:=d.f (g.n-1)) gL (by show(-9223372036854775808:Int)<=_;omega) (by show _<=(9223372036854775807:Int);omega)
    ·show Value.int .i64 (ρ.fn 1100 [ρ.iv 4-1])=_
     rw[gL,hpk]
   ·intro ρ h hv hp
    obtain⟨c0,c1,_⟩:=Eq.mp (zcV ρ) hp
    have e0:ρ.fn 1000 [0]=g.f 0:=h.f 0
    have g0:ρ.fn 1100 [0]=d.f 0:=h.g 0
    have bL:=wg 0 (by omega)
    rw[e0,h.ex]at c0
    have c0:=of_decide_eq_true c0
    have hpk:=Y4 n2 rf c0 (g:=d.f)
    refine .inl ⟨rfl,List.forall_mem_cons.2 ⟨?_,fun _ h=>nomatch h⟩,[.int .i64 ⟨(.v 900),(-9223372036854775808),9223372036854775807⟩],by kernel_rfl,fun b=>?_⟩
    ·exact zg (z:=d.f 0) g0 (by show(-9223372036854775808:Int)<=_;omega) (by show _<=(9223372036854775807:Int);omega)
    ·show Value.int .i64 (ρ.fn 1100 [0])=_
     rw[g0,hpk]
   ·intro ρ h hv hp
    obtain⟨c0,c1,_⟩:=Eq.mp (zcW ρ) hp
    refine .inr ⟨rfl,rfl,?_⟩
    have l4:=h.l4
    have e0:ρ.fn 1000 [0]=g.f 0:=h.f 0
    have eL:ρ.fn 1000 [ρ.iv 4-1]=g.f (g.n-1):=by rw[h.f];congr 1;omega
    rw[e0,h.ex]at c0
    rw[eL,h.ex]at c1
    have c0:=of_decide_eq_true c0
    have c1:=of_decide_eq_true c1
    refine⟨⟨h.std.sub _,h.l4,h.l6,h.ex,h.s4,h.s6⟩,by show 0<=ρ.iv 4-2;omega,by show ρ.iv 4-2+2<=g.n;omega,c0,c1,?_⟩
    show x<g.f ((ρ.iv 4-2).toNat+1)
    have e:(ρ.iv 4-2).toNat+1=g.n-1:=by omega
    rw[e];exact c1)
  (by
   refine List.forall_mem_cons.2 ⟨?_,List.forall_mem_cons.2 ⟨?_,fun _ h=>nomatch h⟩⟩
   ·intro ρ h hv hp
    obtain⟨c0,_⟩:=Eq.mp (zcY ρ) hp
    refine .inl ⟨rfl,rfl,?_,?_⟩
    ·have h1:=h.lo
     have h2:=h.hi
     rw[h.two.f,h.two.ex]at c0
     have c0:=of_decide_eq_true c0
     have hne:ρ.iv 13≠0:=by
      intro e
      rw[e]at c0
      have:=h.first
      have c1:x<g.f 0:=c0
      omega
     refine⟨⟨h.two.std.sub _,h.two.l4,h.two.l6,h.two.ex,h.two.s4,h.two.s6⟩,by show 0<=ρ.iv 13-1;omega,by show ρ.iv 13-1+2<=g.n;omega,h.first,h.last,?_⟩
     show x<g.f ((ρ.iv 13-1).toNat+1)
     have e:(ρ.iv 13-1).toNat+1=(ρ.iv 13).toNat:=by omega
     rw[e];exact c0
    ·have h1:=h.lo
     rw[h.two.f,h.two.ex]at c0
     have c0:=of_decide_eq_true c0
     have hne:ρ.iv 13≠0:=by
      intro e
      rw[e]at c0
      have:=h.first
      have c1:x<g.f 0:=c0
      omega
     show(ρ.iv 13-1).toNat<(ρ.iv 13).toNat
     omega
   ·intro ρ h hv hp
    obtain⟨c0,_⟩:=Eq.mp (zcZ ρ) hp
    refine .inr (.inl ⟨rfl,rfl,?_⟩)
    rw[h.two.f,h.two.ex]at c0
    have c0:=of_decide_eq_true c0
    exact⟨⟨⟨h.two.std.sub _,h.two.l4,h.two.l6,h.two.ex,h.two.s4,h.two.s6⟩,h.lo,h.hi,h.first,h.last,h.below⟩,c0⟩)
  (by
   refine List.forall_mem_cons.2 ⟨?_,fun _ h=>nomatch h⟩
   ·intro ρ h hv hp
    obtain⟨h0,h1,h2,h3,h4,h5,h6,h7,h8,h9,h10,_⟩:=Eq.mp (X3 ρ) hv
    obtain⟨⟨u0,u1,u2,u3,u4,u5⟩,u6,u7,u8⟩:=wT h hpl h2 h4 h6
    refine⟨.inr rfl,List.forall_mem_cons.2 ⟨?_,fun _ h=>nomatch h⟩,[.int .i64 ⟨(.v 900),(-9000000000000000000),9000000000000000000⟩],by kernel_rfl,fun b=>?_⟩
    ·exact zg (z:=qa g.f d.f g.n x) u6 (by show(-9000000000000000000:Int)<=_;omega) (by show _<=(9000000000000000000:Int);omega)
    ·show Value.int .i64 (ρ.fn 50 [IntKind.wrap .i64 (ρ.iv 1156344280580782723+ρ.iv 178919818227887957),ρ.iv 137219631953655616])=_
     rw[u6])
  h0 ⟨fun _=>0,fun _=>0,fun _=>0⟩ w (qU _ _ _ _) ⟨s1,⟨by show _<=ρ0.iv 5;rw[h0.ex];exact hx.1,by show ρ0.iv 5<=_;rw[h0.ex];exact hx.2⟩,trivial⟩ hm
 have e:SV.denL ρ0 ⟨fun _=>0,fun _=>0,fun _=>0⟩ X0=[.agg #[.slice g.A g.n g.c,.slice d.A d.n d.c],.int .i64 x]:=by
  unfold X0
  simp only[SV.denL]
  rw[s2]
  simp only[SV.den,E.i,h0.ex]
 rw[e]at key
 exact key
structure RisesI (g d:GD) (ρ:Env):Prop where
 two:LTwo g d 0 ρ
 ok:zC g.f g.n d.f d.n=0
 lo:1<=ρ.iv 13
 hi:ρ.iv 13<=d.n
 all:∀k,k+1<(ρ.iv 13).toNat->d.f k<=d.f (k+1)
theorem RisesI.same {g d:GD} {ρ ρ':Env} (h:RisesI g d ρ) (hs:Same ρ ρ' [] []):RisesI g d ρ'/\(d.n-ρ'.iv 13).toNat=(d.n-ρ.iv 13).toNat:=by
 have e:=zz hs (n:=13) rfl
 exact⟨⟨h.two.same hs,h.ok,by rw[e];exact h.lo,by rw[e];exact h.hi,by rw[e];exact h.all⟩,by rw[e]⟩
theorem zlZ {G:Nat->GD} {ρ:Env} (h:Std lnF lnB G ρ) {w0:World} (hG:∀k,(G k).ok w0) (hks:∀k,(G k).ks=[true]):HOK Tryz.prog ρ zon:=
 zfb h hG hks rfl (mv:=qp) (φ:=fun g d=>zC g.f g.n d.f d.n) (fun k m=>rfl) (fun g d=>qw _ _ _ _) (fun r b=>k8 ρ h.et r b) (fun r N hr=>hr) fun g d w hk hk' hn hn' o o'=>Zn g d hk hk' hn hn' w o o'
end Go.Proofs.YtoakpnoajmngmaaGreatDoor.Sx
namespace Go.Proofs.YtoakpnoajmngmaaGreatDoor.Sx
open Go.RowKit
theorem X6 {g d:GD} (hp:zC g.f g.n d.f d.n=0) (x:Int): -4000000<=qa g.f d.f g.n x/\qa g.f d.f g.n x<=4000000:=by
 obtain⟨hnn,n2,n8,wf,rf,wg⟩:=jX hp
 have f0L:=vu rf 0 (g.n-1) (by omega) (by omega)
 generalize hX:zm x (g.f 0) (g.f (g.n-1))=X at*
 have X1:g.f 0<=X:=by rw[<-hX];unfold zm;split<;>(try split)<;>omega
 have X2:X<=g.f (g.n-1):=by rw[<-hX];unfold zm;split<;>(try split)<;>omega
 have hi:=zbg g.f X g.n (g.n-2) 0 (by omega) (fun j hj=>absurd hj (Nat.not_lt_zero j))
 generalize hI:ppc g.f X (g.n-2) 0=i at*
 obtain⟨i1,i2,i3⟩:=X4 n2 rf X1 X2 hi
 have b1:=wf i (by omega)
 have b2:=wf (i+1) (by omega)
 have b3:=wg i (by omega)
 have b4:=wg (i+1) (by omega)
 have b5:=rf i (by omega)
 have m2:=Qu (a:=d.f (i+1)-d.f i) (b:=X-g.f i) (A:=2000000) (B:=g.f (i+1)-g.f i) (by omega) (by omega) (by omega) (by omega)
 rw[Int.mul_comm (d.f (i+1)-d.f i)]at m2
 have m3:=MN (m:=(X-g.f i)*(d.f (i+1)-d.f i)) (d:=g.f (i+1)-g.f i) (B:=2000000) (by omega) m2.1 m2.2
 rw[gx (i:=i) (by rw[hX];exact hi),hX]
 unfold zbr
 omega
def zc1 (args:List SV):Option (List E × SV):=match args with
 |[.agg [.osl k [.int .i64 _ _] len,.osl m [.int .i64 _ _] len'],.int .i64 x]=>if len.hi<=1000/\len'.hi<=1000/\ -9223372036854775808<=x.lo/\x.hi<=9223372036854775807 then some ([.bin .eq (.ap 62 (.cons (.c k) (.cons (.c m) .nil))) (.c 0)],.int .i64 ⟨.ap 64 (.cons (.c k) (.cons (.c m) (.cons x.e .nil))),-4000000,4000000⟩)else none
 |_=>none
def jJ:zl:=zF (zb 152 (biP 62 .err)) (zF (zb 97 (biP 62 (.int .i64))) (zF (zb 163 zc1) (zb 101 zc1)))
section
variable {G:Nat->GD} {ρ:Env}
theorem MO {F:FuncId} (h:Std lnF lnB G ρ) {w0:World} (hG:∀k,(G k).ok w0) (hks:∀k,(G k).ks=[true])
  (hc:∀(g d:GD) (w:World) (x:Int),g.ks=[true]->d.ks=[true]->g.n<=1000->d.n<=1000->B64 x->zC g.f g.n d.f d.n=0->g.ok w->d.ok w->Calls Tryz.prog F #[.agg #[.slice g.A g.n g.c,.slice d.A d.n d.c],.int .i64 x] w fun e w'=>e= .returned (.int .i64 (qa g.f d.f g.n x))/\Below w.heap.size w w'):HOK Tryz.prog ρ (zb F zc1):=by
 refine zo fun args gs v hp hg b base w N hok hm hbase=>?_
 unfold zc1 at hp
 split at hp
 ·rename_i k lo hi len m lo' hi' len' x
  split at hp
  ·rename_i hl
   cases hp
   obtain⟨⟨h1,h1',_⟩,h2,_⟩:=hok
   have g1:decide (ρ.fn 62 [(k:Int),(m:Int)]=0)=true:=hg _ (.head _)
   rw[h.f rfl]at g1
   have g1:zC (G k).f (G k).n (G m).f (G m).n=0:=of_decide_eq_true g1
   have e1:(SV.denL ρ b [.agg [.osl k [.int .i64 lo hi] len,.osl m [.int .i64 lo' hi'] len'],.int .i64 x]).toArray=#[.agg #[.slice (G k).A (G k).n (G k).c,.slice (G m).A (G m).n (G m).c],.int .i64 (x.e.i ρ)]:=by
    simp only[SV.denL,zA,zh]
    rw[h.slice h1,h.slice h1']
   rw[e1]
   refine(hc (G k) (G m) w (x.e.i ρ) (hks k) (hks m) (kQ h h1 hl.1) (kQ h h1' hl.2.1) ⟨by have:=h2.1;omega,by have:=h2.2;omega⟩ g1 (h.row hG hm hbase k) (h.row hG hm hbase m)).mono ?_
   rintro e w' ⟨h3,h4⟩
   have e2:(E.ap 64 (.cons (.c k) (.cons (.c m) (.cons x.e .nil)))).i ρ=qa (G k).f (G m).f (G k).n (x.e.i ρ):=by
    simp only[E.i,E.l]
    rw[h.f rfl]
    rfl
   refine⟨by rw[h3,zh,e2],?_,h4⟩
   simp only[SV.ok,R.ok,e2]
   exact X6 g1 _
  ·cases hp
 ·cases hp
theorem xX (h:Std lnF lnB G ρ) {w0:World} (hG:∀k,(G k).ok w0) (hks:∀k,(G k).ks=[true]):HOK Tryz.prog ρ jJ:=
 zc (zlZ h hG hks) (zc (zfb h hG hks rfl (mv:=fun z=> .int .i64 z) (φ:=fun g d=>zC g.f g.n d.f d.n) (fun k m=>rfl) (fun g d=>qw _ _ _ _) (fun r b=>rfl) (fun r N hr=>hr) fun g d w hk hk' hn hn' o o'=>Vt g d hk hk' hn hn' w o o')
  (zc (MO h hG hks fun g d w x hk hk' hn hn' hx hp o o'=>Zp g d hk hk' hn hn' x hx hp w o o') (MO h hG hks fun g d w x hk hk' hn hn' hx hp o o'=>X5 g d hk hk' hn hn' x hx hp w o o')))
end
structure LBig (g h:GD) (x:Int) (ρ:Env):Prop where
 std:Std lnF lnB (jc g h) ρ
 l4:ρ.iv 4=g.n
 l6:ρ.iv 6=h.n
 ex:ρ.iv 5=x
 s4:g.n<=9223372036854775807
 s6:h.n<=9223372036854775807
theorem LBig.same {g h:GD} {x:Int} {ρ ρ':Env} (a:LBig g h x ρ) (hs:Same ρ ρ' [] []):LBig g h x ρ':=⟨a.std.same hs,(zz hs (n:=4) rfl).trans a.l4,(zz hs (n:=6) rfl).trans a.l6,(zz hs (n:=5) rfl).trans a.ex,a.s4,a.s6⟩
theorem LBig.f {g h:GD} {x:Int} {ρ:Env} (a:LBig g h x ρ) (i:Int):ρ.fn 1000 [i]=g.f i.toNat:=a.std.e (k:=0) (j:=0) rfl i
theorem LBig.g {g h:GD} {x:Int} {ρ:Env} (a:LBig g h x ρ) (i:Int):ρ.fn 1100 [i]=h.f i.toNat:=a.std.e (k:=1) (j:=0) rfl i
end Go.Proofs.YtoakpnoajmngmaaGreatDoor.Sx
namespace Go.Proofs.YtoakpnoajmngmaaGreatDoor.Sx
open Go.ChangeShapes Go.WideShapes Go.ChangeAt Go.Deep Go.RowKit in
theorem zoE {H:Type} {enc:TypeId × Value->H} {P:Program} {w:World} {base:Nat} {spare:Nat->Bool} {held:Bool} {s e:TypeId} {fu:Nat} {cs:List Value} {x:DataW H × List MemPlace} (ks:List Bool) (h0:0<ks.length) (hs:P.underlying s=some (.slice e)) (hk:P.cellsOf e=ks.length) (hf:flatK P 10 e=some ks)
  (hx:DataW.trod enc P w base spare held fu s cs=some x):∃g:GD,cs=[.slice g.A g.n g.c]/\g.ok w/\g.ks=ks:=by
 obtain⟨A,n,c,rfl,hnc,hcm,hs⟩:=zeB ks.length (fun cs=>∀(j:Nat) (k:Bool),ks[j]? =some k->(k=true->∃y,cs[j]? =some (.int .i64 y)/\B64 y)/\(k=false->∃y,cs[j]? =some (.bool y))) hs hk h0 (fun n cs x hx=>zeD hf n cs x hx) hx
 unfold maxLen at hcm
 have z64:B64 0:=by unfold B64;omega
 rcases hs with rfl|⟨b,off,rfl,hb,hcell⟩
 ·exact⟨⟨A,c,0,ks,fun _ _=>0,fun _ _=>false⟩,rfl,⟨Nat.zero_le _,fun _ _ h=>absurd h (Nat.not_lt_zero _),fun _ _=>z64⟩,rfl⟩
 ·have hf:∀i j,∃f:Int × Bool,B64 f.1/\(i<n->j<ks.length->w.cell? ⟨b,off+(i*ks.length+j),none⟩=some (match ks[j]? with|some true=> .int .i64 f.1|_=> .bool f.2)):=by
   intro i j
   by_cases hi:i<n
   ·by_cases hj:j<ks.length
    ·obtain⟨cs,_,hQ,hc⟩:=hcell i hi
     have hj':=List.getElem?_eq_getElem hj
     have h1:=hQ j _ hj'
     have h2:=hc j hj
     rw[Nat.add_assoc]at h2
     rw[hj']
     cases hb:ks[j]with
     |true=>
      obtain⟨y,hy,hyb⟩:=h1.1 hb
      exact⟨(y,false),hyb,fun _ _=>by rw[h2,hy]⟩
     |false=>
      obtain⟨y,hy⟩:=h1.2 hb
      exact⟨(0,y),z64,fun _ _=>by rw[h2,hy]⟩
    ·exact⟨(0,false),z64,fun _ h=>absurd h hj⟩
   ·exact⟨(0,false),z64,fun h=>absurd h hi⟩
  obtain⟨f,hf⟩:=Classical.axiomOfChoice fun i=>Classical.axiomOfChoice (hf i)
  exact⟨⟨some ⟨b,off,none⟩,c,n,ks,fun i j=>(f i j).1,fun i j=>(f i j).2⟩,rfl,⟨by show n<=_;omega,fun i j hi hj=>⟨b,off,rfl,hb,(hf i j).2 hi hj⟩,fun i j=>(hf i j).1⟩,rfl⟩
end Go.Proofs.YtoakpnoajmngmaaGreatDoor.Sx
