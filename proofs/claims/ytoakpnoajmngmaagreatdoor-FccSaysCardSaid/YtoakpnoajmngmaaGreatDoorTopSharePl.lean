import Derived.Test.YtoakpnoajmngmaaGreatDoorSlots
import Derived.Test.YtoakpnoajmngmaaGreatDoorVote
import Derived.Test.YtoakpnoajmngmaaGreatDoorProg
import Derived.Test.YtoakpnoajmngmaaGreatDoorShareK
import Derived.Test.YtoakpnoajmngmaaGreatDoorLineA
import Derived.Deep.OwnRows
set_option linter.unusedVariables false
set_option linter.unusedSimpArgs false
namespace Go.Proofs.YtoakpnoajmngmaaGreatDoor.Sx
open Go.RowKit
def my (gm:Int->Int->Int->Int->Int->Int->Int) (hr:Int->Int->Int->Int->Int->Int) (lo hi noise push surf travel rate slack limit confirm watch turn build:Int):Int:=
 if 2<=surf/\surf<=4/\0<=push/\push<=1000 then
  if 0<=limit/\limit<=1000000/\1<=confirm/\confirm<=10 then
   if 1<=travel/\travel<=1000/\1<=rate/\rate<=travel/\0<=slack/\slack<=travel/\1<=watch/\watch<=10 then
    if gm lo hi noise (push+slack) ((surf-1)*travel) ((surf-1)*rate)=0 then
     if hr lo hi turn build ((surf-1)*travel)=0 then(if limit<IntKind.wrap .i64 (2*noise)\/0<lo\/hi<0 then 3 else 0)
     else hr lo hi turn build ((surf-1)*travel)
    else gm lo hi noise (push+slack) ((surf-1)*travel) ((surf-1)*rate)
   else 1
  else 1
 else 1
def xI (pl:Int) (ga:Bool) (lo hi noise push surf travel rate slack limit confirm watch turn build:Int):Int:=
 my zs (fun lo hi tu bu mo=>zK lo hi tu bu mo pl ga) lo hi noise push surf travel rate slack limit confirm watch turn build
theorem gl {pl:Int} {ga:Bool} (h:0<=pl/\pl<=5) (lo hi noise push surf travel rate slack limit confirm watch turn build:Int):0<=xI pl ga lo hi noise push surf travel rate slack limit confirm watch turn build/\xI pl ga lo hi noise push surf travel rate slack limit confirm watch turn build<=5:=by
 unfold xI my
 have h1:=gr lo hi noise (push+slack) ((surf-1)*travel) ((surf-1)*rate)
 have h2:=xY (lo:=lo) (hi:=hi) (tu:=turn) (bu:=build) (mo:=(surf-1)*travel) (ga:=ga) h
 dsimp only
 (repeat' split)<;>omega
def zdM (mk:R->SV) (args:List SV):Option (List E × SV):=match args with
 |[.agg [.int .i64 r0,.int .i64 r1,.int .i64 r2,.int .i64 r3,.int .i64 r4,.int .i64 r5]]=>some ([],mk ⟨.ap 10 (.cons r0.e (.cons r1.e (.cons r2.e (.cons r3.e (.cons r4.e (.cons r5.e .nil)))))),0,3⟩)
 |_=>none
def crF (G:Nat->GD) (id:Nat) (l:List Int):Int:=match id,l with
 |10,[a,b,c,d,e,f]=>zs a b c d e f
 |66,[lo,hi,tu,bu,mo,k,m]=>zK lo hi tu bu mo (zC (G k.toNat).f (G k.toNat).n (G m.toNat).f (G m.toNat).n) (zX (G m.toNat).f (G m.toNat).n)
 |70,[lo,hi,noise,push,surf,travel,rate,slack,limit,confirm,watch,turn,build,k,m]=>xI (zC (G k.toNat).f (G k.toNat).n (G m.toNat).f (G m.toNat).n) (zX (G m.toNat).f (G m.toNat).n) lo hi noise push surf travel rate slack limit confirm watch turn build
 |_,_=>0
section
variable {fn:(Nat->GD)->Nat->List Int->Int} {fb:(Nat->GD)->Nat->List Int->Bool} {G:Nat->GD} {ρ:Env}
theorem GF {F:FuncId} (h:Std fn fb G ρ) (h10:∀a b c d e f,fn G 10 [a,b,c,d,e,f]=zs a b c d e f) {mk:R->SV} {mv:Int->Value}
  (hmk:∀r b,(mk r).den ρ b=mv (r.e.i ρ)) (hmo:∀r N,r.ok ρ->(mk r).ok ρ N)
  (hc:∀(a b c d e f:Int) (w:World),Calls Tryz.prog F #[.agg #[.int .i64 a,.int .i64 b,.int .i64 c,.int .i64 d,.int .i64 e,.int .i64 f]] w fun x w'=>x= .returned (mv (zs a b c d e f))/\Below w.heap.size w w'):HOK Tryz.prog ρ (zb F (zdM mk)):=by
 refine zo fun args gs v hp hg b base w N hok hm hbase=>?_
 unfold zdM at hp
 split at hp
 ·rename_i r0 r1 r2 r3 r4 r5
  cases hp
  have e1:(SV.denL ρ b [.agg [.int .i64 r0,.int .i64 r1,.int .i64 r2,.int .i64 r3,.int .i64 r4,.int .i64 r5]]).toArray=#[.agg #[.int .i64 (r0.e.i ρ),.int .i64 (r1.e.i ρ),.int .i64 (r2.e.i ρ),.int .i64 (r3.e.i ρ),.int .i64 (r4.e.i ρ),.int .i64 (r5.e.i ρ)]]:=by
   simp only[SV.denL,zA,zh]
  rw[e1]
  refine(hc _ _ _ _ _ _ w).mono ?_
  rintro e w' ⟨h2,h3⟩
  have e2:(E.ap 10 (.cons r0.e (.cons r1.e (.cons r2.e (.cons r3.e (.cons r4.e (.cons r5.e .nil))))))).i ρ=zs (r0.e.i ρ) (r1.e.i ρ) (r2.e.i ρ) (r3.e.i ρ) (r4.e.i ρ) (r5.e.i ρ):=by
   simp only[E.i,E.l]
   rw[h.f rfl,h10]
  refine⟨by rw[h2,hmk,e2],hmo _ _ ?_,h3⟩
  unfold R.ok
  rw[e2]
  exact gr _ _ _ _ _ _
 ·cases hp
theorem Kk {F:FuncId} (h:Std fn fb G ρ) (h66:∀lo hi tu bu mo (k m:Nat),fn G 66 [lo,hi,tu,bu,mo,k,m]=zK lo hi tu bu mo (zC (G k).f (G k).n (G m).f (G m).n) (zX (G m).f (G m).n)) {w0:World} (hG:∀k,(G k).ok w0) (hks:∀k,(G k).ks=[true]) {mk:R->SV} {mv:Int->Value}
  (hmk:∀r b,(mk r).den ρ b=mv (r.e.i ρ)) (hmo:∀r N,r.ok ρ->(mk r).ok ρ N)
  (hc:∀(g d:GD) (lo hi tu bu mo:Int) (w:World),g.ks=[true]->d.ks=[true]->g.n<=1000->d.n<=1000->B64 lo->B64 hi->B64 tu->B64 bu->B64 mo->g.ok w->d.ok w->Calls Tryz.prog F #[.agg #[.int .i64 lo,.int .i64 hi,.int .i64 tu,.int .i64 bu,.int .i64 mo,.slice g.A g.n g.c,.slice d.A d.n d.c]] w fun e w'=>e= .returned (mv (zK lo hi tu bu mo (zC g.f g.n d.f d.n) (zX d.f d.n)))/\Below w.heap.size w w'):HOK Tryz.prog ρ (zb F (Gg mk)):=by
 refine zo fun args gs v hp hg b base w N hok hm hbase=>?_
 unfold Gg at hp
 split at hp
 ·rename_i r0 r1 r2 r3 r4 k lo hi len m lo' hi' len'
  split at hp
  ·rename_i hl
   cases hp
   obtain⟨l1,l2,hin⟩:=hl
   simp only[Bool.and_eq_true]at hin
   obtain⟨⟨⟨⟨n0,n1⟩,n2⟩,n3⟩,n4⟩:=hin
   obtain⟨⟨a0,a1,a2,a3,a4,h1,h1',_⟩,_⟩:=hok
   have e1:(SV.denL ρ b [.agg [.int .i64 r0,.int .i64 r1,.int .i64 r2,.int .i64 r3,.int .i64 r4,.osl k [.int .i64 lo hi] len,.osl m [.int .i64 lo' hi'] len']]).toArray=#[.agg #[.int .i64 (r0.e.i ρ),.int .i64 (r1.e.i ρ),.int .i64 (r2.e.i ρ),.int .i64 (r3.e.i ρ),.int .i64 (r4.e.i ρ),.slice (G k).A (G k).n (G k).c,.slice (G m).A (G m).n (G m).c]]:=by
    simp only[SV.denL,zA,zh]
    rw[h.slice h1,h.slice h1']
   rw[e1]
   refine(hc (G k) (G m) _ _ _ _ _ w (hks k) (hks m) (kQ h h1 l1) (kQ h h1' l2) (R.in64_ok n0 a0) (R.in64_ok n1 a1) (R.in64_ok n2 a2) (R.in64_ok n3 a3) (R.in64_ok n4 a4) (h.row hG hm hbase k) (h.row hG hm hbase m)).mono ?_
   rintro e w' ⟨h2,h3⟩
   have e2:(E.ap 66 (.cons r0.e (.cons r1.e (.cons r2.e (.cons r3.e (.cons r4.e (.cons (.c k) (.cons (.c m) .nil)))))))).i ρ=zK (r0.e.i ρ) (r1.e.i ρ) (r2.e.i ρ) (r3.e.i ρ) (r4.e.i ρ) (zC (G k).f (G k).n (G m).f (G m).n) (zX (G m).f (G m).n):=by
    simp only[E.i,E.l]
    rw[h.f rfl,h66]
   refine⟨by rw[h2,hmk,e2],hmo _ _ ?_,h3⟩
   unfold R.ok
   rw[e2]
   exact xY (qw _ _ _ _)
  ·cases hp
 ·cases hp
end
def zh5:zl:=zF (zb 124 (zdM .err)) (zb 126 (Gg .err))
def zh6:zl:=zF (zb 96 (zdM (.int .i64))) (zb 58 (Gg (.int .i64)))
theorem zmF {G:Nat->GD} {ρ:Env} (h:Std crF noB G ρ) {w0:World} (hG:∀k,(G k).ok w0) (hks:∀k,(G k).ks=[true]):HOK Tryz.prog ρ zh5:=
 zc (GF h (fun _ _ _ _ _ _=>rfl) (mv:=qp) (fun r b=>k8 ρ h.et r b) (fun r N hr=>hr) fun a b c d e f w=>vk a b c d e f w)
  (Kk h (fun _ _ _ _ _ _ _=>rfl) hG hks (mv:=qp) (fun r b=>k8 ρ h.et r b) (fun r N hr=>hr) fun g d lo hi tu bu mo w hk hk' hn hn' b0 b1 b2 b3 b4 o o'=>JN g d hk hk' hn hn' lo hi tu bu mo b0 b1 b2 b3 b4 w o o')
theorem zmG {G:Nat->GD} {ρ:Env} (h:Std crF noB G ρ) {w0:World} (hG:∀k,(G k).ok w0) (hks:∀k,(G k).ks=[true]):HOK Tryz.prog ρ zh6:=
 zc (GF h (fun _ _ _ _ _ _=>rfl) (mv:=fun z=> .int .i64 z) (fun r b=>rfl) (fun r N hr=>hr) fun a b c d e f w=>YO a b c d e f w)
  (Kk h (fun _ _ _ _ _ _ _=>rfl) hG hks (mv:=fun z=> .int .i64 z) (fun r b=>rfl) (fun r N hr=>hr) fun g d lo hi tu bu mo w hk hk' hn hn' b0 b1 b2 b3 b4 o o'=>wX g d hk hk' hn hn' lo hi tu bu mo b0 b1 b2 b3 b4 w o o')
structure AxJ (g d:GD) (m:Nat->Int) (ρ:Env):Prop where
 std:Std crF noB (jc g d) ρ
 l4:ρ.iv 4=g.n
 l6:ρ.iv 6=d.n
 s4:g.n<=1000
 s6:d.n<=1000
 at_:∀k,Nat.blt k 1000=true->ρ.iv k=m k
theorem AxJ.same {g d:GD} {m:Nat->Int} {ρ ρ':Env} (h:AxJ g d m ρ) (hs:Same ρ ρ' [] []):AxJ g d m ρ':=⟨h.std.same hs,(zz hs rfl).trans h.l4,(zz hs rfl).trans h.l6,h.s4,h.s6,fun k hk=>(zz hs hk).trans (h.at_ k hk)⟩
theorem GG {g d:GD} {w:World} (o:g.ok w) (o':d.ok w) (hk:g.ks=[true]) (hk':d.ks=[true]) (hn:g.n<=1000) (hn':d.n<=1000) (m:Nat->Int) (h4:m 4=g.n) (h6:m 6=d.n) (b:Bd):∃ρ,AxJ g d m ρ/\Mem ρ (· <w.heap.size) w/\(SV.osl 0 [.int .i64 (-9223372036854775808) 9223372036854775807] ⟨.v 4,0,1000⟩).ok ρ (· <0)/\(SV.osl 0 [.int .i64 (-9223372036854775808) 9223372036854775807] ⟨.v 4,0,1000⟩).den ρ b= .slice g.A g.n g.c/\(SV.osl 1 [.int .i64 (-9223372036854775808) 9223372036854775807] ⟨.v 6,0,1000⟩).ok ρ (· <0)/\(SV.osl 1 [.int .i64 (-9223372036854775808) 9223372036854775807] ⟨.v 6,0,1000⟩).den ρ b= .slice d.A d.n d.c:=by
 obtain⟨⟨q1,q2,q3,q4⟩,q5⟩:=yj (et:=44) (iv:=m) (bv:=fun _=>false) (fn:=crF (jc g d)) (fb:=noB (jc g d)) (fl:=fun _ _=>[]) (zx o o') (k:=0) (m:=4) (sh:=[.int .i64 (-9223372036854775808) 9223372036854775807]) (by show g.ks.map vN=_;rw[hk];rfl) h4 (by show g.ks.length<=100;rw[hk];decide) (· <0) b
 obtain⟨⟨r1,r2,r3,r4⟩,r5⟩:=yj (et:=44) (iv:=m) (bv:=fun _=>false) (fn:=crF (jc g d)) (fb:=noB (jc g d)) (fl:=fun _ _=>[]) (zx o o') (k:=1) (m:=6) (sh:=[.int .i64 (-9223372036854775808) 9223372036854775807]) (by show d.ks.map vN=_;rw[hk'];rfl) h6 (by show d.ks.length<=100;rw[hk'];decide) (· <0) b
 exact⟨ja 44 m (fun _=>false) (crF (jc g d)) (noB (jc g d)) (fun _ _=>[]) (jc g d),⟨Std.gen () _ _ _,h4,h6,hn,hn',fun _ _=>rfl⟩,wQ (zx o o'),⟨⟨q1.1,by show m 4<=1000;omega⟩,Int.le_refl (0:Int),q3,q4⟩,q5,⟨⟨r1.1,by show m 6<=1000;omega⟩,Int.le_refl (0:Int),r3,r4⟩,r5⟩
end Go.Proofs.YtoakpnoajmngmaaGreatDoor.Sx
namespace Go.Proofs.YtoakpnoajmngmaaGreatDoor.Sx
def zaA:List (Nat × List (Nat × List Nat)):=[(111,[(0,[0,3]),(1,[4])]),
 (93,[(0,[1]),(1,[44]),(2,[2]),(3,[2])]),
 (90,[(0,[1]),(1,[20]),(2,[2]),(3,[2])]),
 (152,[(0,[1]),(1,[1,10]),(2,[2]),(3,[1,3]),(4,[1,3,16]),(5,[2]),(6,[2])]),
 (126,[(0,[1]),(1,[1,3]),(2,[1,51]),(3,[2]),(4,[1,59]),(5,[2]),(6,[1,4]),(7,[1,4,65]),(8,[2]),(9,[69,70,71]),(10,[69,70,71,72]),(11,[6,69,70,71]),(12,[69,70,71,80]),(13,[2]),(14,[69,70,71]),(15,[2])]),
 (124,[(0,[1]),(1,[1,3]),(2,[1,58]),(3,[2]),(4,[87]),(5,[2]),(6,[2])]),
 (166,[(0,[0]),(1,[0,7]),(2,[2]),(3,[0,11]),(4,[2]),(5,[0,3]),(6,[0,3,16]),(7,[2]),(8,[0,4]),(9,[0,4,21]),(10,[0,4]),(11,[0,4,33]),(12,[2]),(13,[2])]),
 (167,[(0,[0]),(1,[5,6,7]),(2,[5,6,7,8]),(3,[4,5,6,7]),(4,[5,6,7,16]),(5,[2]),(6,[5,6,7]),(7,[2])]),
 (89,[(0,[1]),(1,[1,25]),(2,[2]),(3,[1,3]),(4,[1,4]),(5,[1,34,35,36]),(6,[1,34,35,36,37]),(7,[1,6,34,35,36]),(8,[1,7,34,35,36]),(9,[1,7,34,35,36,43]),(10,[2]),(11,[1,34,35,36]),(12,[61]),(13,[2]),(14,[2])]),
 (151,[(0,[1,2]),(1,[2,5]),(2,[2,5,12]),(3,[4]),(4,[2,5,6]),(5,[4])]),
 (37,[(0,[1,2]),(1,[1,2,3]),(2,[2])]),
 (121,[(0,[0]),(1,[1])]),
 (122,[(0,[0]),(1,[1])]),
 (123,[(0,[0]),(1,[1])]),
 (125,[(0,[0]),(1,[1])])]
def Kl:List SV:=[.agg [.int .i64 ⟨(.v 20),(-9223372036854775808),9223372036854775807⟩,.int .i64 ⟨(.v 21),(-9223372036854775808),9223372036854775807⟩,.int .i64 ⟨(.v 22),(-9223372036854775808),9223372036854775807⟩,.int .i64 ⟨(.v 23),(-9223372036854775808),9223372036854775807⟩,.int .i64 ⟨(.v 24),(-9223372036854775808),9223372036854775807⟩,.int .i64 ⟨(.v 25),(-9223372036854775808),9223372036854775807⟩,.int .i64 ⟨(.v 26),(-9223372036854775808),9223372036854775807⟩,.int .i64 ⟨(.v 27),(-9223372036854775808),9223372036854775807⟩,.int .i64 ⟨(.v 28),(-9223372036854775808),9223372036854775807⟩,.int .i64 ⟨(.v 29),(-9223372036854775808),9223372036854775807⟩,.int .i64 ⟨(.v 30),(-9223372036854775808),9223372036854775807⟩,.int .i64 ⟨(.v 31),(-9223372036854775808),9223372036854775807⟩,.osl 0 [.int .i64 (-9223372036854775808) 9223372036854775807] ⟨(.v 4),0,1000⟩,.osl 1 [.int .i64 (-9223372036854775808) 9223372036854775807] ⟨(.v 6),0,1000⟩,.int .i64 ⟨(.v 32),(-9223372036854775808),9223372036854775807⟩]]
def zqV:List LS:=[⟨[],.ret,⟨[(2,⟨[],.err ⟨(.v 900),0,5⟩⟩)],[],0,63⟩,⟨[(900,(.v 1653717014909278773))],[]⟩⟩]
def zo6:List VC:=[qN 228993316257946865 (.ite (pO (pO (pO (pT (.v 28) (.c 0)) (pT (.c 1000000) (.v 28))) (pT (.v 29) (.c 1))) (pT (.c 10) (.v 29))) (.c 1) (.c 0)),
 qB 1762343350870874394 (pO (pO (pO (pO (pO (pO (pT (.v 25) (.c 1)) (pT (.c 1000) (.v 25))) (pT (.v 26) (.c 1))) (pT (.v 25) (.v 26))) (pT (.v 27) (.c 0))) (pT (.v 25) (.v 27))) (pT (.v 30) (.c 1))),
 qN 531884568322715170 (.ap 10 (.cons (.v 20) (.cons (.v 21) (.cons (.v 22) (.cons (.un (.wrap .i64) (pA (.v 23) (.v 27))) (.cons (.un (.wrap .i64) (pM (pS (.v 24) (.c 1)) (.v 25))) (.cons (.un (.wrap .i64) (pM (pS (.v 24) (.c 1)) (.v 26))) .nil))))))),
 qN 717194995923425196 (.ap 66 (.cons (.v 20) (.cons (.v 21) (.cons (.v 31) (.cons (.v 32) (.cons (.un (.wrap .i64) (pM (pS (.v 24) (.c 1)) (.v 25))) (.cons (.c 0) (.cons (.c 1) .nil)))))))),
 qN 564907779685634979 (.ite (pO (pO (pT (.v 28) (.un (.wrap .i64) (pM (.c 2) (.v 22)))) (pT (.c 0) (.v 20))) (pT (.v 21) (.c 0))) (.c 3) (.c 0)),
 qN 1787472978623405682 (.ite (pU (pQ (.v 228993316257946865) (.c 0))) (.v 228993316257946865) (.ite (pU (pQ (.ite (pO (.bv 1762343350870874394) (pT (.c 10) (.v 30))) (.c 1) (.c 0)) (.c 0))) (.ite (pO (.bv 1762343350870874394) (pT (.c 10) (.v 30))) (.c 1) (.c 0)) (.ite (pU (pQ (.v 531884568322715170) (.c 0))) (.v 531884568322715170) (.ite (pU (pQ (.v 717194995923425196) (.c 0))) (.v 717194995923425196) (.v 564907779685634979))))),
 qN 1653717014909278773 (.ite (pO (pO (pO (pT (.v 24) (.c 2)) (pT (.c 4) (.v 24))) (pT (.v 23) (.c 0))) (pT (.c 1000) (.v 23))) (.c 1) (.v 1787472978623405682))]
theorem zh7:ran (ya Tryz.prog 44 (qb zh5 zaA 50 12) 89 (qy Tryz.prog 89) (start Tryz.prog 89 Kl [] 0)) zqV zo6=true:=by kernel_rfl
def zo7:List VC:=[]
theorem zdN:qL zo6 [] []=zo7:=by kernel_rfl
theorem zmH:zo7.all VC.isNo=true:=by kernel_rfl
theorem zo8 (ρ:Env):ye ρ zo7=(True):=by kernel_rfl
theorem zdO (ρ:Env):qA ρ zo6=(ρ.iv 228993316257946865=(if((((decide ((ρ.iv 28)<(0:Int)))||(decide ((1000000:Int)<(ρ.iv 28))))||(decide ((ρ.iv 29)<(1:Int))))||(decide ((10:Int)<(ρ.iv 29))))=true then(1:Int)else(0:Int))/\
 ρ.bv 1762343350870874394=(((((((decide ((ρ.iv 25)<(1:Int)))||(decide ((1000:Int)<(ρ.iv 25))))||(decide ((ρ.iv 26)<(1:Int))))||(decide ((ρ.iv 25)<(ρ.iv 26))))||(decide ((ρ.iv 27)<(0:Int))))||(decide ((ρ.iv 25)<(ρ.iv 27))))||(decide ((ρ.iv 30)<(1:Int))))/\
 ρ.iv 531884568322715170=(ρ.fn 10 ((ρ.iv 20)::((ρ.iv 21)::((ρ.iv 22)::((IntKind.wrap .i64 ((ρ.iv 23)+(ρ.iv 27)))::((IntKind.wrap .i64 (((ρ.iv 24)-(1:Int))*(ρ.iv 25)))::((IntKind.wrap .i64 (((ρ.iv 24)-(1:Int))*(ρ.iv 26)))::[])))))))/\
 ρ.iv 717194995923425196=(ρ.fn 66 ((ρ.iv 20)::((ρ.iv 21)::((ρ.iv 31)::((ρ.iv 32)::((IntKind.wrap .i64 (((ρ.iv 24)-(1:Int))*(ρ.iv 25)))::((0:Int)::((1:Int)::[]))))))))/\
 ρ.iv 564907779685634979=(if(((decide ((ρ.iv 28)<(IntKind.wrap .i64 ((2:Int)*(ρ.iv 22)))))||(decide ((0:Int)<(ρ.iv 20))))||(decide ((ρ.iv 21)<(0:Int))))=true then(3:Int)else(0:Int))/\
 ρ.iv 1787472978623405682=(if(!(decide ((ρ.iv 228993316257946865)=(0:Int))))=true then(ρ.iv 228993316257946865)else(if(!(decide ((if((ρ.bv 1762343350870874394)||(decide ((10:Int)<(ρ.iv 30))))=true then(1:Int)else(0:Int))=(0:Int))))=true then(if((ρ.bv 1762343350870874394)||(decide ((10:Int)<(ρ.iv 30))))=true then(1:Int)else(0:Int))else(if(!(decide ((ρ.iv 531884568322715170)=(0:Int))))=true then(ρ.iv 531884568322715170)else(if(!(decide ((ρ.iv 717194995923425196)=(0:Int))))=true then(ρ.iv 717194995923425196)else(ρ.iv 564907779685634979)))))/\
 ρ.iv 1653717014909278773=(if((((decide ((ρ.iv 24)<(2:Int)))||(decide ((4:Int)<(ρ.iv 24))))||(decide ((ρ.iv 23)<(0:Int))))||(decide ((1000:Int)<(ρ.iv 23))))=true then(1:Int)else(ρ.iv 1787472978623405682))/\
 True):=by kernel_rfl
def zaB:List (Nat × List (Nat × List Nat)):=[(8,[(0,[0,1]),(1,[1,5]),(2,[4]),(3,[4])]),
 (7,[(0,[0]),(1,[0,3]),(2,[0,3,7]),(3,[0,3]),(4,[0,3,14]),(5,[2]),(6,[2])]),
 (20,[(0,[0,1,2]),(1,[6])]),
 (59,[(0,[1]),(1,[3]),(2,[2])]),
 (96,[(0,[1]),(1,[1,3]),(2,[1,35]),(3,[2]),(4,[2])]),
 (64,[(0,[1,2]),(1,[2])]),
 (57,[(0,[1]),(1,[2])]),
 (97,[(0,[1]),(1,[2])]),
 (25,[(0,[1,2]),(1,[2])]),
 (58,[(0,[1]),(1,[1,3]),(2,[1,4]),(3,[1,4,5]),(4,[1,4,5,52]),(5,[1,4,5]),(6,[1,4,5]),(7,[2])]),
 (23,[(0,[1,2]),(1,[2])]),
 (94,[(0,[1,2]),(1,[1,2,5]),(2,[1,2,5,10]),(3,[1,2,5]),(4,[1,2,5]),(5,[4])]),
 (131,[(0,[0]),(1,[0,3]),(2,[0,3,4]),(3,[0,3,4,8]),(4,[0,3,4]),(5,[0,3,4]),(6,[2])]),
 (132,[(0,[0]),(1,[0,3]),(2,[0,3,7]),(3,[0,3]),(4,[0,3,15]),(5,[2]),(6,[2])]),
 (56,[(0,[1]),(1,[1,3]),(2,[1,3,17]),(3,[2]),(4,[1,4]),(5,[1,4,28]),(6,[2]),(7,[2])]),
 (28,[(0,[1,2]),(1,[2])])]
def Km:List SV:=[.agg [.int .i64 ⟨(.v 20),(-9223372036854775808),9223372036854775807⟩,.int .i64 ⟨(.v 21),(-9223372036854775808),9223372036854775807⟩,.int .i64 ⟨(.v 22),(-9223372036854775808),9223372036854775807⟩,.int .i64 ⟨(.v 23),(-9223372036854775808),9223372036854775807⟩,.int .i64 ⟨(.v 24),(-9223372036854775808),9223372036854775807⟩,.int .i64 ⟨(.v 25),(-9223372036854775808),9223372036854775807⟩,.int .i64 ⟨(.v 26),(-9223372036854775808),9223372036854775807⟩,.int .i64 ⟨(.v 27),(-9223372036854775808),9223372036854775807⟩,.int .i64 ⟨(.v 28),(-9223372036854775808),9223372036854775807⟩,.int .i64 ⟨(.v 29),(-9223372036854775808),9223372036854775807⟩,.int .i64 ⟨(.v 30),(-9223372036854775808),9223372036854775807⟩,.int .i64 ⟨(.v 31),(-9223372036854775808),9223372036854775807⟩,.osl 0 [.int .i64 (-9223372036854775808) 9223372036854775807] ⟨(.v 4),0,1000⟩,.osl 1 [.int .i64 (-9223372036854775808) 9223372036854775807] ⟨(.v 6),0,1000⟩,.int .i64 ⟨(.v 32),(-9223372036854775808),9223372036854775807⟩]]
def zqW:List LS:=[⟨[],.ret,⟨[(2,⟨[],.int .i64 ⟨(.v 900),0,5⟩⟩)],[],0,55⟩,⟨[(900,(.v 1305154780191724881))],[]⟩⟩]
def zo9:List VC:=[qN 2139829953887012011 (.ite (pO (pU (pN (pL (.c 2) (.v 24)) (pL (.v 24) (.c 4)))) (pU (pN (pL (.c 0) (.v 23)) (pL (.v 23) (.c 1000))))) (.c 1) (.c 0)),
 qN 1369584362731549391 (.ite (pO (pU (pN (pL (.c 0) (.v 28)) (pL (.v 28) (.c 1000000)))) (pU (pN (pL (.c 1) (.v 29)) (pL (.v 29) (.c 10))))) (.c 1) (.c 0)),
 qB 967201388527257336 (pN (pN (pN (pN (pL (.c 1) (.v 25)) (pL (.v 25) (.c 1000))) (pN (pL (.c 1) (.v 26)) (pL (.v 26) (.v 25)))) (pN (pL (.c 0) (.v 27)) (pL (.v 27) (.v 25)))) (pN (pL (.c 1) (.v 30)) (pL (.v 30) (.c 10)))),
 qN 69042849047568942 (.ite (pU (pQ (.v 1369584362731549391) (.c 0))) (.v 1369584362731549391) (.ite (pU (pQ (.ite (pU (.bv 967201388527257336)) (.c 1) (.c 0)) (.c 0))) (.ite (pU (.bv 967201388527257336)) (.c 1) (.c 0)) (.c 0))),
 qN 1011592302259082198 (.ite (pU (pQ (.v 1369584362731549391) (.c 0))) (.ite (pU (.bv 967201388527257336)) (.c 1) (.c 0)) (.ite (pU (pQ (.ite (pU (.bv 967201388527257336)) (.c 1) (.c 0)) (.c 0))) (.ite (pU (.bv 967201388527257336)) (.c 1) (.c 0)) (.c 0))),
 qN 564907779685634979 (.ite (pO (pO (pT (.v 28) (.un (.wrap .i64) (pM (.c 2) (.v 22)))) (pT (.c 0) (.v 20))) (pT (.v 21) (.c 0))) (.c 3) (.c 0)),
 qN 1204378803655566967 (.ap 10 (.cons (.v 20) (.cons (.v 21) (.cons (.v 22) (.cons (.un (.wrap .i64) (pA (.v 23) (.v 27))) (.cons (.un (.wrap .i64) (pM (.un (.wrap .i64) (pS (.v 24) (.c 1))) (.v 25))) (.cons (.un (.wrap .i64) (pM (.un (.wrap .i64) (pS (.v 24) (.c 1))) (.v 26))) .nil))))))),
 qN 1422638507173326592 (.ap 66 (.cons (.v 20) (.cons (.v 21) (.cons (.v 31) (.cons (.v 32) (.cons (.un (.wrap .i64) (pM (.un (.wrap .i64) (pS (.v 24) (.c 1))) (.v 25))) (.cons (.c 0) (.cons (.c 1) .nil)))))))),
 qN 179813481900231905 (.ite (pU (pQ (.v 1204378803655566967) (.c 0))) (.v 1204378803655566967) (.ite (pU (pQ (.v 1422638507173326592) (.c 0))) (.v 1422638507173326592) (.ite (pU (pQ (.v 564907779685634979) (.c 0))) (.v 564907779685634979) (.c 0)))),
 qN 488978402488921738 (.ite (pU (pQ (.v 1204378803655566967) (.c 0))) (.v 564907779685634979) (.ite (pU (pQ (.v 1422638507173326592) (.c 0))) (.v 564907779685634979) (.ite (pU (pQ (.v 564907779685634979) (.c 0))) (.v 564907779685634979) (.c 0)))),
 qN 1305154780191724881 (.ite (pU (pQ (.v 2139829953887012011) (.c 0))) (.v 2139829953887012011) (.ite (pU (pQ (.v 69042849047568942) (.c 0))) (.v 69042849047568942) (.v 179813481900231905)))]
theorem zh8:ran (ya Tryz.prog 44 (qb zh6 zaB 50 12) 56 (qy Tryz.prog 56) (start Tryz.prog 56 Km [] 0)) zqW zo9=true:=by kernel_rfl
def zpa:List VC:=[]
theorem zdP:qL zo9 [] []=zpa:=by kernel_rfl
theorem zmI:zpa.all VC.isNo=true:=by kernel_rfl
theorem zpb (ρ:Env):ye ρ zpa=(True):=by kernel_rfl
theorem zdQ (ρ:Env):qA ρ zo9=(ρ.iv 2139829953887012011=(if((!((decide ((2:Int)<=(ρ.iv 24)))&&(decide ((ρ.iv 24)<=(4:Int)))))||(!((decide ((0:Int)<=(ρ.iv 23)))&&(decide ((ρ.iv 23)<=(1000:Int))))))=true then(1:Int)else(0:Int))/\
 ρ.iv 1369584362731549391=(if((!((decide ((0:Int)<=(ρ.iv 28)))&&(decide ((ρ.iv 28)<=(1000000:Int)))))||(!((decide ((1:Int)<=(ρ.iv 29)))&&(decide ((ρ.iv 29)<=(10:Int))))))=true then(1:Int)else(0:Int))/\
 ρ.bv 967201388527257336=(((((decide ((1:Int)<=(ρ.iv 25)))&&(decide ((ρ.iv 25)<=(1000:Int))))&&((decide ((1:Int)<=(ρ.iv 26)))&&(decide ((ρ.iv 26)<=(ρ.iv 25)))))&&((decide ((0:Int)<=(ρ.iv 27)))&&(decide ((ρ.iv 27)<=(ρ.iv 25)))))&&((decide ((1:Int)<=(ρ.iv 30)))&&(decide ((ρ.iv 30)<=(10:Int)))))/\
 ρ.iv 69042849047568942=(if(!(decide ((ρ.iv 1369584362731549391)=(0:Int))))=true then(ρ.iv 1369584362731549391)else(if(!(decide ((if(!(ρ.bv 967201388527257336))=true then(1:Int)else(0:Int))=(0:Int))))=true then(if(!(ρ.bv 967201388527257336))=true then(1:Int)else(0:Int))else(0:Int)))/\
 ρ.iv 1011592302259082198=(if(!(decide ((ρ.iv 1369584362731549391)=(0:Int))))=true then(if(!(ρ.bv 967201388527257336))=true then(1:Int)else(0:Int))else(if(!(decide ((if(!(ρ.bv 967201388527257336))=true then(1:Int)else(0:Int))=(0:Int))))=true then(if(!(ρ.bv 967201388527257336))=true then(1:Int)else(0:Int))else(0:Int)))/\
 ρ.iv 564907779685634979=(if(((decide ((ρ.iv 28)<(IntKind.wrap .i64 ((2:Int)*(ρ.iv 22)))))||(decide ((0:Int)<(ρ.iv 20))))||(decide ((ρ.iv 21)<(0:Int))))=true then(3:Int)else(0:Int))/\
 ρ.iv 1204378803655566967=(ρ.fn 10 ((ρ.iv 20)::((ρ.iv 21)::((ρ.iv 22)::((IntKind.wrap .i64 ((ρ.iv 23)+(ρ.iv 27)))::((IntKind.wrap .i64 ((IntKind.wrap .i64 ((ρ.iv 24)-(1:Int)))*(ρ.iv 25)))::((IntKind.wrap .i64 ((IntKind.wrap .i64 ((ρ.iv 24)-(1:Int)))*(ρ.iv 26)))::[])))))))/\
 ρ.iv 1422638507173326592=(ρ.fn 66 ((ρ.iv 20)::((ρ.iv 21)::((ρ.iv 31)::((ρ.iv 32)::((IntKind.wrap .i64 ((IntKind.wrap .i64 ((ρ.iv 24)-(1:Int)))*(ρ.iv 25)))::((0:Int)::((1:Int)::[]))))))))/\
 ρ.iv 179813481900231905=(if(!(decide ((ρ.iv 1204378803655566967)=(0:Int))))=true then(ρ.iv 1204378803655566967)else(if(!(decide ((ρ.iv 1422638507173326592)=(0:Int))))=true then(ρ.iv 1422638507173326592)else(if(!(decide ((ρ.iv 564907779685634979)=(0:Int))))=true then(ρ.iv 564907779685634979)else(0:Int))))/\
 ρ.iv 488978402488921738=(if(!(decide ((ρ.iv 1204378803655566967)=(0:Int))))=true then(ρ.iv 564907779685634979)else(if(!(decide ((ρ.iv 1422638507173326592)=(0:Int))))=true then(ρ.iv 564907779685634979)else(if(!(decide ((ρ.iv 564907779685634979)=(0:Int))))=true then(ρ.iv 564907779685634979)else(0:Int))))/\
 ρ.iv 1305154780191724881=(if(!(decide ((ρ.iv 2139829953887012011)=(0:Int))))=true then(ρ.iv 2139829953887012011)else(if(!(decide ((ρ.iv 69042849047568942)=(0:Int))))=true then(ρ.iv 69042849047568942)else(ρ.iv 179813481900231905)))/\
 True):=by kernel_rfl
end Go.Proofs.YtoakpnoajmngmaaGreatDoor.Sx
namespace Go.Proofs.YtoakpnoajmngmaaGreatDoor.Sx
open Go.RowKit
theorem zpc {F10:Int->Int->Int->Int->Int->Int->Int} {F66:Int->Int->Int->Int->Int->Int->Int->Int} {x20 x21 x22 x23 x24 x25 x26 x27 x28 x29 x30 x31 x32 y1 y3 y4 y5 y6 y7:Int} {q2:Bool}
  (h0:y1=(if((((decide (x28<(0:Int)))||(decide ((1000000:Int)<x28)))||(decide (x29<(1:Int))))||(decide ((10:Int)<x29)))=true then(1:Int)else(0:Int)))
  (h1:q2=(((((((decide (x25<(1:Int)))||(decide ((1000:Int)<x25)))||(decide (x26<(1:Int))))||(decide (x25<x26)))||(decide (x27<(0:Int))))||(decide (x25<x27)))||(decide (x30<(1:Int)))))
  (h2:y3=(F10 x20 x21 x22 (IntKind.wrap .i64 (x23+x27)) (IntKind.wrap .i64 ((x24-(1:Int))*x25)) (IntKind.wrap .i64 ((x24-(1:Int))*x26))))
  (h3:y4=(F66 x20 x21 x31 x32 (IntKind.wrap .i64 ((x24-(1:Int))*x25)) (0:Int) (1:Int)))
  (h4:y5=(if(((decide (x28<(IntKind.wrap .i64 ((2:Int)*x22))))||(decide ((0:Int)<x20)))||(decide (x21<(0:Int))))=true then(3:Int)else(0:Int)))
  (h5:y6=(if(!(decide (y1=(0:Int))))=true then y1 else(if(!(decide ((if(q2||(decide ((10:Int)<x30)))=true then(1:Int)else(0:Int))=(0:Int))))=true then(if(q2||(decide ((10:Int)<x30)))=true then(1:Int)else(0:Int))else(if(!(decide (y3=(0:Int))))=true then y3 else(if(!(decide (y4=(0:Int))))=true then y4 else y5)))))
  (h6:y7=(if((((decide (x24<(2:Int)))||(decide ((4:Int)<x24)))||(decide (x23<(0:Int))))||(decide ((1000:Int)<x23)))=true then(1:Int)else y6))
  :y7=my F10 (fun a b c d e=>F66 a b c d e 0 1) x20 x21 x22 x23 x24 x25 x26 x27 x28 x29 x30 x31 x32:=by
 have e1:((((decide (x24<(2:Int)))||(decide ((4:Int)<x24)))||(decide (x23<(0:Int))))||(decide ((1000:Int)<x23)))= !decide (2<=x24/\x24<=4/\0<=x23/\x23<=1000):=by
  rw[Bool.eq_iff_iff];simp only[Bool.or_eq_true,Bool.and_eq_true,Bool.not_eq_true',Bool.and_eq_false_imp,decide_eq_true_eq,decide_eq_false_iff_not];omega
 have e2:((((decide (x28<(0:Int)))||(decide ((1000000:Int)<x28)))||(decide (x29<(1:Int))))||(decide ((10:Int)<x29)))= !decide (0<=x28/\x28<=1000000/\1<=x29/\x29<=10):=by
  rw[Bool.eq_iff_iff];simp only[Bool.or_eq_true,Bool.and_eq_true,Bool.not_eq_true',Bool.and_eq_false_imp,decide_eq_true_eq,decide_eq_false_iff_not];omega
 have e3:(q2||(decide ((10:Int)<x30)))= !decide (1<=x25/\x25<=1000/\1<=x26/\x26<=x25/\0<=x27/\x27<=x25/\1<=x30/\x30<=10):=by
  rw[h1];rw[Bool.eq_iff_iff];simp only[Bool.or_eq_true,Bool.and_eq_true,Bool.not_eq_true',Bool.and_eq_false_imp,decide_eq_true_eq,decide_eq_false_iff_not];omega
 rw[e1]at h6
 rw[e2]at h0
 rw[e3]at h5
 clear e1 e2 e3 h1
 unfold my
 by_cases c1:2<=x24/\x24<=4/\0<=x23/\x23<=1000
 ·rw[if_pos c1,h6,h5,h0,decide_eq_true c1]
  by_cases c2:0<=x28/\x28<=1000000/\1<=x29/\x29<=10
  ·rw[if_pos c2,decide_eq_true c2]
   by_cases c3:1<=x25/\x25<=1000/\1<=x26/\x26<=x25/\0<=x27/\x27<=x25/\1<=x30/\x30<=10
   ·rw[if_pos c3,decide_eq_true c3,h4,h2,h3]
    have m1:=Qu (a:=x24-1) (b:=x25) (A:=3) (B:=1000) (by omega) (by omega) (by omega) (by omega)
    have m2:=Qu (a:=x24-1) (b:=x26) (A:=3) (B:=1000) (by omega) (by omega) (by omega) (by omega)
    rw[w64 _ (by omega) (by omega)]
    rw[w64 ((x24-1)*x25) (by omega) (by omega),w64 ((x24-1)*x26) (by omega) (by omega)]
    simp only[Bool.not_true,Bool.false_eq_true,if_false,decide_true,Bool.not_eq_true',decide_eq_false_iff_not,Bool.or_eq_true,decide_eq_true_eq,ite_not,or_assoc]
   ·rw[if_neg c3,decide_eq_false c3];rfl
  ·rw[if_neg c2,decide_eq_false c2];rfl
 ·rw[if_neg c1,h6,decide_eq_false c1];rfl
theorem zpd {F10:Int->Int->Int->Int->Int->Int->Int} {F66:Int->Int->Int->Int->Int->Int->Int->Int} {x20 x21 x22 x23 x24 x25 x26 x27 x28 x29 x30 x31 x32 y1 y2 y4 y5 y6 y7 y8 y9 y10 y11:Int} {q3:Bool}
  (h0:y1=(if((!((decide ((2:Int)<=x24))&&(decide (x24<=(4:Int)))))||(!((decide ((0:Int)<=x23))&&(decide (x23<=(1000:Int))))))=true then(1:Int)else(0:Int)))
  (h1:y2=(if((!((decide ((0:Int)<=x28))&&(decide (x28<=(1000000:Int)))))||(!((decide ((1:Int)<=x29))&&(decide (x29<=(10:Int))))))=true then(1:Int)else(0:Int)))
  (h2:q3=(((((decide ((1:Int)<=x25))&&(decide (x25<=(1000:Int))))&&((decide ((1:Int)<=x26))&&(decide (x26<=x25))))&&((decide ((0:Int)<=x27))&&(decide (x27<=x25))))&&((decide ((1:Int)<=x30))&&(decide (x30<=(10:Int))))))
  (h3:y4=(if(!(decide (y2=(0:Int))))=true then y2 else(if(!(decide ((if(!q3)=true then(1:Int)else(0:Int))=(0:Int))))=true then(if(!q3)=true then(1:Int)else(0:Int))else(0:Int))))
  (h4:y5=(if(!(decide (y2=(0:Int))))=true then(if(!q3)=true then(1:Int)else(0:Int))else(if(!(decide ((if(!q3)=true then(1:Int)else(0:Int))=(0:Int))))=true then(if(!q3)=true then(1:Int)else(0:Int))else(0:Int))))
  (h5:y6=(if(((decide (x28<(IntKind.wrap .i64 ((2:Int)*x22))))||(decide ((0:Int)<x20)))||(decide (x21<(0:Int))))=true then(3:Int)else(0:Int)))
  (h6:y7=(F10 x20 x21 x22 (IntKind.wrap .i64 (x23+x27)) (IntKind.wrap .i64 ((IntKind.wrap .i64 (x24-(1:Int)))*x25)) (IntKind.wrap .i64 ((IntKind.wrap .i64 (x24-(1:Int)))*x26))))
  (h7:y8=(F66 x20 x21 x31 x32 (IntKind.wrap .i64 ((IntKind.wrap .i64 (x24-(1:Int)))*x25)) (0:Int) (1:Int)))
  (h8:y9=(if(!(decide (y7=(0:Int))))=true then y7 else(if(!(decide (y8=(0:Int))))=true then y8 else(if(!(decide (y6=(0:Int))))=true then y6 else(0:Int)))))
  (h9:y10=(if(!(decide (y7=(0:Int))))=true then y6 else(if(!(decide (y8=(0:Int))))=true then y6 else(if(!(decide (y6=(0:Int))))=true then y6 else(0:Int)))))
  (h10:y11=(if(!(decide (y1=(0:Int))))=true then y1 else(if(!(decide (y4=(0:Int))))=true then y4 else y9)))
  :y11=my F10 (fun a b c d e=>F66 a b c d e 0 1) x20 x21 x22 x23 x24 x25 x26 x27 x28 x29 x30 x31 x32:=by
 have e1:((!((decide ((2:Int)<=x24))&&(decide (x24<=(4:Int)))))||(!((decide ((0:Int)<=x23))&&(decide (x23<=(1000:Int))))))= !decide (2<=x24/\x24<=4/\0<=x23/\x23<=1000):=by
  rw[Bool.eq_iff_iff];simp only[Bool.or_eq_true,Bool.and_eq_true,Bool.not_eq_true',Bool.and_eq_false_imp,decide_eq_true_eq,decide_eq_false_iff_not];omega
 have e2:((!((decide ((0:Int)<=x28))&&(decide (x28<=(1000000:Int)))))||(!((decide ((1:Int)<=x29))&&(decide (x29<=(10:Int))))))= !decide (0<=x28/\x28<=1000000/\1<=x29/\x29<=10):=by
  rw[Bool.eq_iff_iff];simp only[Bool.or_eq_true,Bool.and_eq_true,Bool.not_eq_true',Bool.and_eq_false_imp,decide_eq_true_eq,decide_eq_false_iff_not];omega
 have e3:q3=decide (1<=x25/\x25<=1000/\1<=x26/\x26<=x25/\0<=x27/\x27<=x25/\1<=x30/\x30<=10):=by
  rw[h2];rw[Bool.eq_iff_iff];simp only[Bool.or_eq_true,Bool.and_eq_true,Bool.not_eq_true',Bool.and_eq_false_imp,decide_eq_true_eq,decide_eq_false_iff_not];omega
 rw[e1]at h0
 rw[e2]at h1
 rw[e3]at h3
 clear e1 e2 e3 h2 h4 h9
 unfold my
 by_cases c1:2<=x24/\x24<=4/\0<=x23/\x23<=1000
 ·rw[if_pos c1,h10,h0,h3,h1,decide_eq_true c1]
  by_cases c2:0<=x28/\x28<=1000000/\1<=x29/\x29<=10
  ·rw[if_pos c2,decide_eq_true c2]
   by_cases c3:1<=x25/\x25<=1000/\1<=x26/\x26<=x25/\0<=x27/\x27<=x25/\1<=x30/\x30<=10
   ·rw[if_pos c3,decide_eq_true c3,h8,h5,h6,h7]
    have m1:=Qu (a:=x24-1) (b:=x25) (A:=3) (B:=1000) (by omega) (by omega) (by omega) (by omega)
    have m2:=Qu (a:=x24-1) (b:=x26) (A:=3) (B:=1000) (by omega) (by omega) (by omega) (by omega)
    rw[w64 (x24-1) (by omega) (by omega),w64 (x23+x27) (by omega) (by omega)]
    rw[w64 ((x24-1)*x25) (by omega) (by omega),w64 ((x24-1)*x26) (by omega) (by omega)]
    simp only[Bool.not_true,Bool.false_eq_true,if_false,if_true,decide_true,Bool.not_eq_true',decide_eq_false_iff_not,Bool.or_eq_true,decide_eq_true_eq,ite_not,or_assoc]
    split
    ·split
     ·split<;>simp_all
     ·rfl
    ·rfl
   ·rw[if_neg c3,decide_eq_false c3];rfl
  ·rw[if_neg c2,decide_eq_false c2];rfl
 ·rw[if_neg c1,h10,h0,decide_eq_false c1];rfl
set_option maxRecDepth 100000 in
set_option maxHeartbeats 1000000 in
theorem zaC (g d:GD) (hk:g.ks=[true]) (hk':d.ks=[true]) (hn:g.n<=1000) (hn':d.n<=1000) (lo hi noise push surf travel rate slack limit confirm watch turn build:Int) (b20:B64 lo) (b21:B64 hi) (b22:B64 noise) (b23:B64 push) (b24:B64 surf) (b25:B64 travel) (b26:B64 rate) (b27:B64 slack) (b28:B64 limit) (b29:B64 confirm) (b30:B64 watch) (b31:B64 turn) (b32:B64 build) (w:World) (o:g.ok w) (o':d.ok w):
  Calls Tryz.prog 89 #[.agg #[.int .i64 lo,.int .i64 hi,.int .i64 noise,.int .i64 push,.int .i64 surf,.int .i64 travel,.int .i64 rate,.int .i64 slack,.int .i64 limit,.int .i64 confirm,.int .i64 watch,.int .i64 turn,.slice g.A g.n g.c,.slice d.A d.n d.c,.int .i64 build]] w fun e w'=>e= .returned (qp (xI (zC g.f g.n d.f d.n) (zX d.f d.n) lo hi noise push surf travel rate slack limit confirm watch turn build))/\Below w.heap.size w w':=by
 obtain⟨ρ0,h0,hm,s1,s2,s3,s4⟩:=GG o o' hk hk' hn hn' (fun n=>match n with|4=>(g.n:Int)|6=>(d.n:Int)|20=>lo|21=>hi|22=>noise|23=>push|24=>surf|25=>travel|26=>rate|27=>slack|28=>limit|29=>confirm|30=>watch|31=>turn|32=>build|_=>0) rfl rfl ⟨fun _=>0,fun _=>0,fun _=>0⟩
 have e20:ρ0.iv 20=lo:=h0.at_ 20 rfl
 have e21:ρ0.iv 21=hi:=h0.at_ 21 rfl
 have e22:ρ0.iv 22=noise:=h0.at_ 22 rfl
 have e23:ρ0.iv 23=push:=h0.at_ 23 rfl
 have e24:ρ0.iv 24=surf:=h0.at_ 24 rfl
 have e25:ρ0.iv 25=travel:=h0.at_ 25 rfl
 have e26:ρ0.iv 26=rate:=h0.at_ 26 rfl
 have e27:ρ0.iv 27=slack:=h0.at_ 27 rfl
 have e28:ρ0.iv 28=limit:=h0.at_ 28 rfl
 have e29:ρ0.iv 29=confirm:=h0.at_ 29 rfl
 have e30:ρ0.iv 30=watch:=h0.at_ 30 rfl
 have e31:ρ0.iv 31=turn:=h0.at_ 31 rfl
 have e32:ρ0.iv 32=build:=h0.at_ 32 rfl
 have key:=kq (P:=Tryz.prog) (cfg:=qb zh5 zaA 50 12) Tryz.func89 rfl (args:=Kl) (H:=[]) (nx:=0) zh7 zdN zmH (V:=qp (xI (zC g.f g.n d.f d.n) (zX d.f d.n) lo hi noise push surf travel rate slack limit confirm watch turn build)) (AxJ g d (fun n=>match n with|4=>(g.n:Int)|6=>(d.n:Int)|20=>lo|21=>hi|22=>noise|23=>push|24=>surf|25=>travel|26=>rate|27=>slack|28=>limit|29=>confirm|30=>watch|31=>turn|32=>build|_=>0))
  (fun ρ h=>⟨h.std.et,zmF h.std (zx o o') (kP hk hk')⟩) (fun ρ ρ' h hs=>h.same hs) (by kernel_rfl)
  (fun ρ h=>by
   have h1:=h.l4
   have h2:=h.l6
   have h3:=h.s4
   have h4:=h.s6
   have e20:ρ.iv 20=lo:=h.at_ 20 rfl
   have e21:ρ.iv 21=hi:=h.at_ 21 rfl
   have e22:ρ.iv 22=noise:=h.at_ 22 rfl
   have e23:ρ.iv 23=push:=h.at_ 23 rfl
   have e24:ρ.iv 24=surf:=h.at_ 24 rfl
   have e25:ρ.iv 25=travel:=h.at_ 25 rfl
   have e26:ρ.iv 26=rate:=h.at_ 26 rfl
   have e27:ρ.iv 27=slack:=h.at_ 27 rfl
   have e28:ρ.iv 28=limit:=h.at_ 28 rfl
   have e29:ρ.iv 29=confirm:=h.at_ 29 rfl
   have e30:ρ.iv 30=watch:=h.at_ 30 rfl
   have e31:ρ.iv 31=turn:=h.at_ 31 rfl
   have e32:ρ.iv 32=build:=h.at_ 32 rfl
   unfold B64 at b20 b21 b22 b23 b24 b25 b26 b27 b28 b29 b30 b31 b32
   refine List.forall_mem_cons.2 ⟨?_,List.forall_mem_cons.2 ⟨?_,List.forall_mem_cons.2 ⟨?_,List.forall_mem_cons.2 ⟨?_,List.forall_mem_cons.2 ⟨?_,List.forall_mem_cons.2 ⟨?_,List.forall_mem_cons.2 ⟨?_,List.forall_mem_cons.2 ⟨?_,List.forall_mem_cons.2 ⟨?_,List.forall_mem_cons.2 ⟨?_,List.forall_mem_cons.2 ⟨?_,List.forall_mem_cons.2 ⟨?_,List.forall_mem_cons.2 ⟨?_,List.forall_mem_cons.2 ⟨?_,List.forall_mem_cons.2 ⟨?_,fun _ h=>nomatch h⟩⟩⟩⟩⟩⟩⟩⟩⟩⟩⟩⟩⟩⟩⟩
   ·exact zg (z:=ρ.iv 20) rfl (by show(-9223372036854775808:Int)<=ρ.iv 20;omega) (by show ρ.iv 20<=9223372036854775807;omega)
   ·exact zg (z:=ρ.iv 21) rfl (by show(-9223372036854775808:Int)<=ρ.iv 21;omega) (by show ρ.iv 21<=9223372036854775807;omega)
   ·exact zg (z:=ρ.iv 22) rfl (by show(-9223372036854775808:Int)<=ρ.iv 22;omega) (by show ρ.iv 22<=9223372036854775807;omega)
   ·exact zg (z:=ρ.iv 23) rfl (by show(-9223372036854775808:Int)<=ρ.iv 23;omega) (by show ρ.iv 23<=9223372036854775807;omega)
   ·exact zg (z:=ρ.iv 24) rfl (by show(-9223372036854775808:Int)<=ρ.iv 24;omega) (by show ρ.iv 24<=9223372036854775807;omega)
   ·exact zg (z:=ρ.iv 25) rfl (by show(-9223372036854775808:Int)<=ρ.iv 25;omega) (by show ρ.iv 25<=9223372036854775807;omega)
   ·exact zg (z:=ρ.iv 26) rfl (by show(-9223372036854775808:Int)<=ρ.iv 26;omega) (by show ρ.iv 26<=9223372036854775807;omega)
   ·exact zg (z:=ρ.iv 27) rfl (by show(-9223372036854775808:Int)<=ρ.iv 27;omega) (by show ρ.iv 27<=9223372036854775807;omega)
   ·exact zg (z:=ρ.iv 28) rfl (by show(-9223372036854775808:Int)<=ρ.iv 28;omega) (by show ρ.iv 28<=9223372036854775807;omega)
   ·exact zg (z:=ρ.iv 29) rfl (by show(-9223372036854775808:Int)<=ρ.iv 29;omega) (by show ρ.iv 29<=9223372036854775807;omega)
   ·exact zg (z:=ρ.iv 30) rfl (by show(-9223372036854775808:Int)<=ρ.iv 30;omega) (by show ρ.iv 30<=9223372036854775807;omega)
   ·exact zg (z:=ρ.iv 31) rfl (by show(-9223372036854775808:Int)<=ρ.iv 31;omega) (by show ρ.iv 31<=9223372036854775807;omega)
   ·exact zg (z:=ρ.iv 4) rfl (by show(0:Int)<=ρ.iv 4;omega) (by show ρ.iv 4<=1000;omega)
   ·exact zg (z:=ρ.iv 6) rfl (by show(0:Int)<=ρ.iv 6;omega) (by show ρ.iv 6<=1000;omega)
   ·exact zg (z:=ρ.iv 32) rfl (by show(-9223372036854775808:Int)<=ρ.iv 32;omega) (by show ρ.iv 32<=9223372036854775807;omega))
  (fun ρ h hv=>Eq.mpr (zo8 ρ) (by
   trivial))
  (by
   refine List.forall_mem_cons.2 ⟨?_,fun _ h=>nomatch h⟩
   ·intro ρ h hv hp
    obtain⟨h0,h1,h2,h3,h4,h5,h6,-⟩:=Eq.mp (zdO ρ) hv
    have key:=zpc (F10:=fun a0 a1 a2 a3 a4 a5=>ρ.fn 10 [a0,a1,a2,a3,a4,a5]) (F66:=fun a0 a1 a2 a3 a4 a5 a6=>ρ.fn 66 [a0,a1,a2,a3,a4,a5,a6]) h0 h1 h2 h3 h4 h5 h6
    have hz:ρ.iv 1653717014909278773=xI (zC g.f g.n d.f d.n) (zX d.f d.n) lo hi noise push surf travel rate slack limit confirm watch turn build:=by
     rw[key]
     rw[show ρ.iv 20=lo from h.at_ 20 rfl]
     rw[show ρ.iv 21=hi from h.at_ 21 rfl]
     rw[show ρ.iv 22=noise from h.at_ 22 rfl]
     rw[show ρ.iv 23=push from h.at_ 23 rfl]
     rw[show ρ.iv 24=surf from h.at_ 24 rfl]
     rw[show ρ.iv 25=travel from h.at_ 25 rfl]
     rw[show ρ.iv 26=rate from h.at_ 26 rfl]
     rw[show ρ.iv 27=slack from h.at_ 27 rfl]
     rw[show ρ.iv 28=limit from h.at_ 28 rfl]
     rw[show ρ.iv 29=confirm from h.at_ 29 rfl]
     rw[show ρ.iv 30=watch from h.at_ 30 rfl]
     rw[show ρ.iv 31=turn from h.at_ 31 rfl]
     rw[show ρ.iv 32=build from h.at_ 32 rfl]
     have f10:(fun a b c d e f=>ρ.fn 10 [a,b,c,d,e,f])=zs:=by
      funext a b c d e f
      rw[h.std.f rfl];rfl
     have f66:(fun a b c d e=>ρ.fn 66 [a,b,c,d,e,0,1])=fun lo hi tu bu mo=>zK lo hi tu bu mo (zC g.f g.n d.f d.n) (zX d.f d.n):=by
      funext a b c d' e
      rw[h.std.f rfl];rfl
     rw[f10,f66]
     rfl
    refine⟨.inr rfl,List.forall_mem_cons.2 ⟨?_,fun _ h=>nomatch h⟩,[.err ⟨(.v 900),0,5⟩],by kernel_rfl,fun b=>?_⟩
    ·exact zg (z:=xI (zC g.f g.n d.f d.n) (zX d.f d.n) lo hi noise push surf travel rate slack limit confirm watch turn build) hz (gl (qw _ _ _ _) _ _ _ _ _ _ _ _ _ _ _ _ _).1 (gl (qw _ _ _ _) _ _ _ _ _ _ _ _ _ _ _ _ _).2
    ·show(SV.err _).den _ b=_
     exact(k8 _ (h.std.sub _).et _ b).trans (congrArg qp hz))
  h0 ⟨fun _=>0,fun _=>0,fun _=>0⟩ w (qU _ _ _ _) (by
   unfold Kl
   simp only[SV.okL,SV.ok,R.ok,E.i,e20,e21,e22,e23,e24,e25,e26,e27,e28,e29,e30,e31,e32]
   exact⟨⟨b20,b21,b22,b23,b24,b25,b26,b27,b28,b29,b30,b31,s1,s3,b32,trivial⟩,trivial⟩) hm
 have e:SV.denL ρ0 ⟨fun _=>0,fun _=>0,fun _=>0⟩ Kl=[.agg #[.int .i64 lo,.int .i64 hi,.int .i64 noise,.int .i64 push,.int .i64 surf,.int .i64 travel,.int .i64 rate,.int .i64 slack,.int .i64 limit,.int .i64 confirm,.int .i64 watch,.int .i64 turn,.slice g.A g.n g.c,.slice d.A d.n d.c,.int .i64 build]]:=by
  unfold Kl
  simp only[SV.denL]
  simp only[zA,SV.denL,zh,E.i,e20,e21,e22,e23,e24,e25,e26,e27,e28,e29,e30,e31,e32]
  rw[s2,s4]
 rw[e]at key
 exact key
set_option maxRecDepth 100000 in
set_option maxHeartbeats 1000000 in
theorem zh9 (g d:GD) (hk:g.ks=[true]) (hk':d.ks=[true]) (hn:g.n<=1000) (hn':d.n<=1000) (lo hi noise push surf travel rate slack limit confirm watch turn build:Int) (b20:B64 lo) (b21:B64 hi) (b22:B64 noise) (b23:B64 push) (b24:B64 surf) (b25:B64 travel) (b26:B64 rate) (b27:B64 slack) (b28:B64 limit) (b29:B64 confirm) (b30:B64 watch) (b31:B64 turn) (b32:B64 build) (w:World) (o:g.ok w) (o':d.ok w):
  Calls Tryz.prog 56 #[.agg #[.int .i64 lo,.int .i64 hi,.int .i64 noise,.int .i64 push,.int .i64 surf,.int .i64 travel,.int .i64 rate,.int .i64 slack,.int .i64 limit,.int .i64 confirm,.int .i64 watch,.int .i64 turn,.slice g.A g.n g.c,.slice d.A d.n d.c,.int .i64 build]] w fun e w'=>e= .returned (.int .i64 (xI (zC g.f g.n d.f d.n) (zX d.f d.n) lo hi noise push surf travel rate slack limit confirm watch turn build))/\Below w.heap.size w w':=by
 obtain⟨ρ0,h0,hm,s1,s2,s3,s4⟩:=GG o o' hk hk' hn hn' (fun n=>match n with|4=>(g.n:Int)|6=>(d.n:Int)|20=>lo|21=>hi|22=>noise|23=>push|24=>surf|25=>travel|26=>rate|27=>slack|28=>limit|29=>confirm|30=>watch|31=>turn|32=>build|_=>0) rfl rfl ⟨fun _=>0,fun _=>0,fun _=>0⟩
 have e20:ρ0.iv 20=lo:=h0.at_ 20 rfl
 have e21:ρ0.iv 21=hi:=h0.at_ 21 rfl
 have e22:ρ0.iv 22=noise:=h0.at_ 22 rfl
 have e23:ρ0.iv 23=push:=h0.at_ 23 rfl
 have e24:ρ0.iv 24=surf:=h0.at_ 24 rfl
 have e25:ρ0.iv 25=travel:=h0.at_ 25 rfl
 have e26:ρ0.iv 26=rate:=h0.at_ 26 rfl
 have e27:ρ0.iv 27=slack:=h0.at_ 27 rfl
 have e28:ρ0.iv 28=limit:=h0.at_ 28 rfl
 have e29:ρ0.iv 29=confirm:=h0.at_ 29 rfl
 have e30:ρ0.iv 30=watch:=h0.at_ 30 rfl
 have e31:ρ0.iv 31=turn:=h0.at_ 31 rfl
 have e32:ρ0.iv 32=build:=h0.at_ 32 rfl
 have key:=kq (P:=Tryz.prog) (cfg:=qb zh6 zaB 50 12) Tryz.func56 rfl (args:=Km) (H:=[]) (nx:=0) zh8 zdP zmI (V:= .int .i64 (xI (zC g.f g.n d.f d.n) (zX d.f d.n) lo hi noise push surf travel rate slack limit confirm watch turn build)) (AxJ g d (fun n=>match n with|4=>(g.n:Int)|6=>(d.n:Int)|20=>lo|21=>hi|22=>noise|23=>push|24=>surf|25=>travel|26=>rate|27=>slack|28=>limit|29=>confirm|30=>watch|31=>turn|32=>build|_=>0))
  (fun ρ h=>⟨h.std.et,zmG h.std (zx o o') (kP hk hk')⟩) (fun ρ ρ' h hs=>h.same hs) (by kernel_rfl)
  (fun ρ h=>by
   have h1:=h.l4
   have h2:=h.l6
   have h3:=h.s4
   have h4:=h.s6
   have e20:ρ.iv 20=lo:=h.at_ 20 rfl
   have e21:ρ.iv 21=hi:=h.at_ 21 rfl
   have e22:ρ.iv 22=noise:=h.at_ 22 rfl
   have e23:ρ.iv 23=push:=h.at_ 23 rfl
   have e24:ρ.iv 24=surf:=h.at_ 24 rfl
   have e25:ρ.iv 25=travel:=h.at_ 25 rfl
   have e26:ρ.iv 26=rate:=h.at_ 26 rfl
   have e27:ρ.iv 27=slack:=h.at_ 27 rfl
   have e28:ρ.iv 28=limit:=h.at_ 28 rfl
   have e29:ρ.iv 29=confirm:=h.at_ 29 rfl
   have e30:ρ.iv 30=watch:=h.at_ 30 rfl
   have e31:ρ.iv 31=turn:=h.at_ 31 rfl
   have e32:ρ.iv 32=build:=h.at_ 32 rfl
   unfold B64 at b20 b21 b22 b23 b24 b25 b26 b27 b28 b29 b30 b31 b32
   refine List.forall_mem_cons.2 ⟨?_,List.forall_mem_cons.2 ⟨?_,List.forall_mem_cons.2 ⟨?_,List.forall_mem_cons.2 ⟨?_,List.forall_mem_cons.2 ⟨?_,List.forall_mem_cons.2 ⟨?_,List.forall_mem_cons.2 ⟨?_,List.forall_mem_cons.2 ⟨?_,List.forall_mem_cons.2 ⟨?_,List.forall_mem_cons.2 ⟨?_,List.forall_mem_cons.2 ⟨?_,List.forall_mem_cons.2 ⟨?_,List.forall_mem_cons.2 ⟨?_,List.forall_mem_cons.2 ⟨?_,List.forall_mem_cons.2 ⟨?_,fun _ h=>nomatch h⟩⟩⟩⟩⟩⟩⟩⟩⟩⟩⟩⟩⟩⟩⟩
   ·exact zg (z:=ρ.iv 20) rfl (by show(-9223372036854775808:Int)<=ρ.iv 20;omega) (by show ρ.iv 20<=9223372036854775807;omega)
   ·exact zg (z:=ρ.iv 21) rfl (by show(-9223372036854775808:Int)<=ρ.iv 21;omega) (by show ρ.iv 21<=9223372036854775807;omega)
   ·exact zg (z:=ρ.iv 22) rfl (by show(-9223372036854775808:Int)<=ρ.iv 22;omega) (by show ρ.iv 22<=9223372036854775807;omega)
   ·exact zg (z:=ρ.iv 23) rfl (by show(-9223372036854775808:Int)<=ρ.iv 23;omega) (by show ρ.iv 23<=9223372036854775807;omega)
   ·exact zg (z:=ρ.iv 24) rfl (by show(-9223372036854775808:Int)<=ρ.iv 24;omega) (by show ρ.iv 24<=9223372036854775807;omega)
   ·exact zg (z:=ρ.iv 25) rfl (by show(-9223372036854775808:Int)<=ρ.iv 25;omega) (by show ρ.iv 25<=9223372036854775807;omega)
   ·exact zg (z:=ρ.iv 26) rfl (by show(-9223372036854775808:Int)<=ρ.iv 26;omega) (by show ρ.iv 26<=9223372036854775807;omega)
   ·exact zg (z:=ρ.iv 27) rfl (by show(-9223372036854775808:Int)<=ρ.iv 27;omega) (by show ρ.iv 27<=9223372036854775807;omega)
   ·exact zg (z:=ρ.iv 28) rfl (by show(-9223372036854775808:Int)<=ρ.iv 28;omega) (by show ρ.iv 28<=9223372036854775807;omega)
   ·exact zg (z:=ρ.iv 29) rfl (by show(-9223372036854775808:Int)<=ρ.iv 29;omega) (by show ρ.iv 29<=9223372036854775807;omega)
   ·exact zg (z:=ρ.iv 30) rfl (by show(-9223372036854775808:Int)<=ρ.iv 30;omega) (by show ρ.iv 30<=9223372036854775807;omega)
   ·exact zg (z:=ρ.iv 31) rfl (by show(-9223372036854775808:Int)<=ρ.iv 31;omega) (by show ρ.iv 31<=9223372036854775807;omega)
   ·exact zg (z:=ρ.iv 4) rfl (by show(0:Int)<=ρ.iv 4;omega) (by show ρ.iv 4<=1000;omega)
   ·exact zg (z:=ρ.iv 6) rfl (by show(0:Int)<=ρ.iv 6;omega) (by show ρ.iv 6<=1000;omega)
   ·exact zg (z:=ρ.iv 32) rfl (by show(-9223372036854775808:Int)<=ρ.iv 32;omega) (by show ρ.iv 32<=9223372036854775807;omega))
  (fun ρ h hv=>Eq.mpr (zpb ρ) (by
   trivial))
  (by
   refine List.forall_mem_cons.2 ⟨?_,fun _ h=>nomatch h⟩
   ·intro ρ h hv hp
    obtain⟨h0,h1,h2,h3,h4,h5,h6,h7,h8,h9,h10,-⟩:=Eq.mp (zdQ ρ) hv
    have key:=zpd (F10:=fun a0 a1 a2 a3 a4 a5=>ρ.fn 10 [a0,a1,a2,a3,a4,a5]) (F66:=fun a0 a1 a2 a3 a4 a5 a6=>ρ.fn 66 [a0,a1,a2,a3,a4,a5,a6]) h0 h1 h2 h3 h4 h5 h6 h7 h8 h9 h10
    have hz:ρ.iv 1305154780191724881=xI (zC g.f g.n d.f d.n) (zX d.f d.n) lo hi noise push surf travel rate slack limit confirm watch turn build:=by
     rw[key]
     rw[show ρ.iv 20=lo from h.at_ 20 rfl]
     rw[show ρ.iv 21=hi from h.at_ 21 rfl]
     rw[show ρ.iv 22=noise from h.at_ 22 rfl]
     rw[show ρ.iv 23=push from h.at_ 23 rfl]
     rw[show ρ.iv 24=surf from h.at_ 24 rfl]
     rw[show ρ.iv 25=travel from h.at_ 25 rfl]
     rw[show ρ.iv 26=rate from h.at_ 26 rfl]
     rw[show ρ.iv 27=slack from h.at_ 27 rfl]
     rw[show ρ.iv 28=limit from h.at_ 28 rfl]
     rw[show ρ.iv 29=confirm from h.at_ 29 rfl]
     rw[show ρ.iv 30=watch from h.at_ 30 rfl]
     rw[show ρ.iv 31=turn from h.at_ 31 rfl]
     rw[show ρ.iv 32=build from h.at_ 32 rfl]
     have f10:(fun a b c d e f=>ρ.fn 10 [a,b,c,d,e,f])=zs:=by
      funext a b c d e f
      rw[h.std.f rfl];rfl
     have f66:(fun a b c d e=>ρ.fn 66 [a,b,c,d,e,0,1])=fun lo hi tu bu mo=>zK lo hi tu bu mo (zC g.f g.n d.f d.n) (zX d.f d.n):=by
      funext a b c d' e
      rw[h.std.f rfl];rfl
     rw[f10,f66]
     rfl
    refine⟨.inr rfl,List.forall_mem_cons.2 ⟨?_,fun _ h=>nomatch h⟩,[.int .i64 ⟨(.v 900),0,5⟩],by kernel_rfl,fun b=>?_⟩
    ·exact zg (z:=xI (zC g.f g.n d.f d.n) (zX d.f d.n) lo hi noise push surf travel rate slack limit confirm watch turn build) hz (gl (qw _ _ _ _) _ _ _ _ _ _ _ _ _ _ _ _ _).1 (gl (qw _ _ _ _) _ _ _ _ _ _ _ _ _ _ _ _ _).2
    ·show Value.int .i64 (ρ.iv 1305154780191724881)=_
     rw[hz])
  h0 ⟨fun _=>0,fun _=>0,fun _=>0⟩ w (qU _ _ _ _) (by
   unfold Km
   simp only[SV.okL,SV.ok,R.ok,E.i,e20,e21,e22,e23,e24,e25,e26,e27,e28,e29,e30,e31,e32]
   exact⟨⟨b20,b21,b22,b23,b24,b25,b26,b27,b28,b29,b30,b31,s1,s3,b32,trivial⟩,trivial⟩) hm
 have e:SV.denL ρ0 ⟨fun _=>0,fun _=>0,fun _=>0⟩ Km=[.agg #[.int .i64 lo,.int .i64 hi,.int .i64 noise,.int .i64 push,.int .i64 surf,.int .i64 travel,.int .i64 rate,.int .i64 slack,.int .i64 limit,.int .i64 confirm,.int .i64 watch,.int .i64 turn,.slice g.A g.n g.c,.slice d.A d.n d.c,.int .i64 build]]:=by
  unfold Km
  simp only[SV.denL]
  simp only[zA,SV.denL,zh,E.i,e20,e21,e22,e23,e24,e25,e26,e27,e28,e29,e30,e31,e32]
  rw[s2,s4]
 rw[e]at key
 exact key
end Go.Proofs.YtoakpnoajmngmaaGreatDoor.Sx
namespace Go.Proofs.YtoakpnoajmngmaaGreatDoor.Sx
open Go.RowKit
def ptk (t r is:Int) (o:Bool) (x:Int):Int:=if o=true then 0 else min (max x (max (is-r) (-t))) (min (is+r) t)
def q8 (g:GD) (t r x:Int):Nat->Int
 |0=>0
 |k+1=>q8 g t r x k+ptk t r (g.fi k 0) (g.fb k 2) x
def psm (g:GD) (t r s c:Int) (n:Nat):Nat->Int
 |0=>if z8 t r s c=0 then(if 1<=n/\n<=4 then 0 else 2)else 1
 |k+1=>if psm g t r s c n k=0 then zj t r s c (g.fi k 0) (g.fi k 1) (g.fb k 2)else psm g t r s c n k
def qj (g:GD) (t r s c:Int):Int:=psm g t r s c g.n g.n
def zia (g:GD) (t r sum:Int):Int:=zbo (fun x=>q8 g t r x g.n) sum t
def j3 (g:GD) (t r sum:Int):Int:=min (max sum (q8 g t r (-t) g.n)) (q8 g t r t g.n)
def ve (g:GD) (t r sum:Int):Int:=zia g t r (j3 g t r sum)
def vf (g:GD) (t r sum:Int):Nat->Int
 |0=>j3 g t r sum-q8 g t r (ve g t r sum) g.n
 |k+1=>if 0<vf g t r sum k/\ptk t r (g.fi k 0) (g.fb k 2) (ve g t r sum)<ptk t r (g.fi k 0) (g.fb k 2) (ve g t r sum+1)then vf g t r sum k-1 else vf g t r sum k
def Wi (g:GD) (t r sum:Int) (k:Nat):Int:=
 if 0<vf g t r sum k/\ptk t r (g.fi k 0) (g.fb k 2) (ve g t r sum)<ptk t r (g.fi k 0) (g.fb k 2) (ve g t r sum+1)then ptk t r (g.fi k 0) (g.fb k 2) (ve g t r sum)+1 else ptk t r (g.fi k 0) (g.fb k 2) (ve g t r sum)
def dec (l:List Int) (i:Nat):Zr:=match l.drop (3*i)with
 |f::a::b::_=>if f=0 then none else some (a,b)
 |_=>none
def plo (t r s c is bad:Int) (o:Bool):Int:=if zj t r s c is bad o=0/\o=false then Xf t r is else 0
def phi (t r s c is bad:Int) (o:Bool):Int:=if zj t r s c is bad o=0/\o=false then Xg t r is else 0
def shF (G:Nat->GD) (id:Nat) (l:List Int):Int:=match id,l with
 |83,[t,r,is,o,x]=>ptk t r is (decide (o=1)) x
 |84,[k,t,r,x]=>q8 (G k.toNat) t r x (G k.toNat).n
 |85,s::m::l=>zbo (fun x=>yO (dec l) x (l.length/3)) s m
 |86,[k,t,r,s,i]=>Wi (G k.toNat) t r s i.toNat
 |87,[k,t,r,s,c]=>qj (G k.toNat) t r s c
 |88,[t,r,s,c,is,bad,o]=>zj t r s c is bad (decide (o=1))
 |89,[t,r,s,c]=>z8 t r s c
 |90,x::l=>yO (dec l) x (l.length/3)
 |91,[x,lo,hi]=>zm x lo hi
 |92,[t,r,s,c,is,bad,o]=>plo t r s c is bad (decide (o=1))
 |93,[t,r,s,c,is,bad,o]=>phi t r s c is bad (decide (o=1))
 |_,_=>0
theorem zaD (t r s c is bad:Int) (o:Bool):0<=zj t r s c is bad o/\zj t r s c is bad o<=3:=by
 unfold zj
 (repeat' split)<;>omega
theorem Kn {t r s c is bad:Int} {o:Bool} (h:zj t r s c is bad o=0) (x:Int): -t<=ptk t r is o x/\ptk t r is o x<=t:=by
 obtain⟨⟨a1,a2,a3,a4,a5,a6,a7,a8⟩,b1,b2,b3,b4,_,_⟩:=zU h
 unfold ptk
 split<;>omega
theorem zdR {g:GD} {t r s c:Int} {n k:Nat} (h:psm g t r s c n (k+1)=0):psm g t r s c n k=0/\zj t r s c (g.fi k 0) (g.fi k 1) (g.fb k 2)=0:=by
 simp only[psm]at h
 split at h
 ·exact⟨by assumption,h⟩
 ·exact absurd h (by assumption)
theorem xJ {g:GD} {t r s c:Int} {n:Nat}:∀k,psm g t r s c n k=0->gD t r s c/\1<=n/\n<=4/\∀i,i<k->zj t r s c (g.fi i 0) (g.fi i 1) (g.fb i 2)=0
 |0,h=>by
  simp only[psm]at h
  split at h
  ·rename_i ha
   split at h
   ·rename_i hb;exact⟨Zc ha,hb.1,hb.2,fun i hi=>absurd hi (Nat.not_lt_zero _)⟩
   ·exact absurd h (by decide)
  ·exact absurd h (by decide)
 |k+1,h=>by
  obtain⟨h1,h2⟩:=zdR h
  obtain⟨a,b,c',d⟩:=xJ k h1
  refine⟨a,b,c',fun i hi=>?_⟩
  rcases Nat.lt_or_ge i k with hlt|hge
  ·exact d i hlt
  ·obtain rfl:i=k:=by omega
   exact h2
theorem QR {g:GD} {t r s c:Int} {n:Nat}:∀k,(∀i,i<k->zj t r s c (g.fi i 0) (g.fi i 1) (g.fb i 2)=0)->∀x,-t*k<=q8 g t r x k/\q8 g t r x k<=t*k
 |0,_,x=>by simp[q8]
 |k+1,h,x=>by
  have h1:=QR (n:=n) k (fun i hi=>h i (by omega)) x
  have h2:=Kn (h k (by omega)) x
  simp only[q8]
  have e1:t*((k+1:Nat):Int)=t*k+t:=by push_cast;rw[Int.mul_add,Int.mul_one]
  have e2: -t*((k+1:Nat):Int)= -t*k+ -t:=by push_cast;rw[Int.mul_add,Int.mul_one]
  rw[e1,e2]
  omega
theorem Ko {g:GD} {t r s c:Int} (h:qj g t r s c=0) (x:Int): -4000<=q8 g t r x g.n/\q8 g t r x g.n<=4000:=by
 obtain⟨⟨a1,a2,_⟩,_,b2,b3⟩:=xJ _ h
 have hb:=QR (n:=0) g.n b3 x
 have m1:t*(g.n:Int)<=1000*4:=Int.mul_le_mul a2 (by omega) (by omega) (by omega)
 have m2: -t*(g.n:Int)= -(t*g.n):=Int.neg_mul _ _
 rw[m2]at hb
 omega
def zaE (args:List SV):Option (List E × SV):=match args with
 |[.agg [.int .i64 t,.int .i64 r,.int .i64 s,.int .i64 c],.agg [.int .i64 x,.int .i64 y,.bool o],.int .i64 l]=>if(y.in64&&l.in64)=true then some ([.bin .eq (.ap 88 (.cons t.e (.cons r.e (.cons s.e (.cons c.e (.cons x.e (.cons y.e (.cons (.ite o (.c 1) (.c 0)) .nil)))))))) (.c 0)],.int .i64 ⟨.ap 83 (.cons t.e (.cons r.e (.cons x.e (.cons (.ite o (.c 1) (.c 0)) (.cons l.e .nil))))),-1000,1000⟩)else none
 |_=>none
section
variable {fb:(Nat->GD)->Nat->List Int->Bool} {G:Nat->GD} {ρ:Env}
theorem jM (ρ:Env) (b:Bd) (e:E):(SV.bool e).den ρ b= .bool (e.b ρ):=by simp only[SV.den]
theorem zdS (c:Bool):decide ((if c=true then(1:Int)else 0)=1)=c:=by cases c<;>rfl
theorem zdT {F:FuncId} (h:Std shF fb G ρ)
  (hc:∀(t r s c x y:Int) (o:Bool) (l:Int) (w:World),zj t r s c x y o=0->B64 y->B64 l->Calls Tryz.prog F #[.agg #[.int .i64 t,.int .i64 r,.int .i64 s,.int .i64 c],.agg #[.int .i64 x,.int .i64 y,.bool o],.int .i64 l] w fun e w'=>e= .returned (.int .i64 (ptk t r x o l))/\Below w.heap.size w w'):HOK Tryz.prog ρ (zb F zaE):=by
 refine zo fun args gs v hp hg b base w N hok hm hbase=>?_
 unfold zaE at hp
 split at hp
 ·rename_i t r s c x y o l
  split at hp
  rotate_left
  ·cases hp
  rename_i hin
  rw[Bool.and_eq_true]at hin
  obtain⟨_,⟨_,k2,_⟩,k3,_⟩:=hok
  cases hp
  have g1:ρ.fn 88 [t.e.i ρ,r.e.i ρ,s.e.i ρ,c.e.i ρ,x.e.i ρ,y.e.i ρ,if o.b ρ=true then 1 else 0]=0:=of_decide_eq_true (hg _ (.head _))
  rw[h.f rfl]at g1
  have g1:zj (t.e.i ρ) (r.e.i ρ) (s.e.i ρ) (c.e.i ρ) (x.e.i ρ) (y.e.i ρ) (decide ((if o.b ρ=true then(1:Int)else 0)=1))=0:=g1
  rw[zdS]at g1
  simp only[SV.denL,zA,zh,jM]
  refine(hc _ _ _ _ _ _ _ _ w g1 (R.in64_ok hin.1 k2) (R.in64_ok hin.2 k3)).mono ?_
  rintro e w' ⟨h2,h3⟩
  have e2:(E.ap 83 (.cons t.e (.cons r.e (.cons x.e (.cons (.ite o (.c 1) (.c 0)) (.cons l.e .nil)))))).i ρ=ptk (t.e.i ρ) (r.e.i ρ) (x.e.i ρ) (o.b ρ) (l.e.i ρ):=by
   simp only[E.i,E.l]
   rw[h.f rfl]
   show ptk _ _ _ (decide _) _=_
   rw[zdS]
  refine⟨by rw[h2,e2],?_,h3⟩
  simp only[SV.ok,R.ok,e2]
  have hb:=Kn g1 (l.e.i ρ)
  obtain⟨⟨_,a2,_⟩,_⟩:=zU g1
  omega
 ·cases hp
end
theorem Std.eb {fn:(Nat->GD)->Nat->List Int->Int} {fb:(Nat->GD)->Nat->List Int->Bool} {G:Nat->GD} {ρ:Env} (h:Std fn fb G ρ) {k j:Nat} (hj:Nat.blt j 100=true) (i:Int):ρ.fb (1000+100*k+j) [i]=(G k).fb i.toNat j:=by
 have:=kv hj
 rw[h.fb]
 simp only
 rw[if_pos (by omega)]
 have e2:(1000+100*k+j-1000)/100=k:=by omega
 have e3:(1000+100*k+j)%100=j:=by omega
 rw[e2,e3]
 rfl
def zaF:zl:=zb 104 zaE
end Go.Proofs.YtoakpnoajmngmaaGreatDoor.Sx
namespace Go.Proofs.YtoakpnoajmngmaaGreatDoor.Sx
def zaG:List (Nat × List (Nat × List Nat)):=[(135,[(0,[2,3,4]),(1,[2,3,4,6]),(2,[4]),(3,[4])]),
 (65,[(0,[0,1,2]),(1,[6])]),
 (104,[(0,[2,3,4]),(1,[2,7]),(2,[6])])]
def GH:List SV:=[.agg [.int .i64 ⟨(.v 20),1,1000⟩,.int .i64 ⟨(.v 21),1,1000⟩,.int .i64 ⟨(.v 22),0,1000⟩,.int .i64 ⟨(.v 23),1,10⟩],.agg [.int .i64 ⟨(.v 30),(-1000),1000⟩,.int .i64 ⟨(.v 31),(-9223372036854775808),9223372036854775807⟩,.bool (.bv 32)],.int .i64 ⟨(.v 33),(-9223372036854775808),9223372036854775807⟩]
def zqX:List LS:=[⟨[],.ret,⟨[(6,⟨[],.int .i64 ⟨(.v 900),(-1000),1000⟩⟩)],[],0,17⟩,⟨[(900,(.bin .min (.v 286107394256503435) (.ite (.bv 32) (.c 0) (.bin .min (.bin .add (.v 30) (.v 21)) (.v 20)))))],[]⟩⟩]
def zpe:List VC:=[qN 286107394256503435 (pX (.v 33) (.ite (.bv 32) (.c 0) (pX (pS (.v 30) (.v 21)) (pS (.c 0) (.v 20)))))]
theorem zib:ran (ya Tryz.prog 44 (qb jS zaG 50 12) 104 (qy Tryz.prog 104) (start Tryz.prog 104 GH [] 0)) zqX zpe=true:=by kernel_rfl
def zpf:List VC:=[]
theorem zdU:qL zpe [] []=zpf:=by kernel_rfl
theorem zmJ:zpf.all VC.isNo=true:=by kernel_rfl
theorem zpg (ρ:Env):ye ρ zpf=(True):=by kernel_rfl
theorem zdV (ρ:Env):qA ρ zpe=(ρ.iv 286107394256503435=(max (ρ.iv 33) (if(ρ.bv 32)=true then(0:Int)else(max ((ρ.iv 30)-(ρ.iv 21)) ((0:Int)-(ρ.iv 20)))))/\
 True):=by kernel_rfl
def QS:List (Nat × List (Nat × List Nat)):=[(135,[(0,[2,3,4]),(1,[2,3,4,6]),(2,[4]),(3,[4])]),
 (65,[(0,[0,1,2]),(1,[6])]),
 (103,[(0,[1,2,3]),(1,[1,2,3,7]),(2,[1,2,3,7,8]),(3,[1,2,3,7,8,12]),(4,[1,2,3,7,8]),(5,[1,2,3,7,8]),(6,[6])]),
 (104,[(0,[2,3,4]),(1,[2,7]),(2,[6])])]
def GI:List SV:=[.agg [.int .i64 ⟨(.v 20),1,1000⟩,.int .i64 ⟨(.v 21),1,1000⟩,.int .i64 ⟨(.v 22),0,1000⟩,.int .i64 ⟨(.v 23),1,10⟩],.osl 0 [.int .i64 (-9223372036854775808) 9223372036854775807,.int .i64 (-9223372036854775808) 9223372036854775807,.bool] ⟨(.v 4),0,4⟩,.int .i64 ⟨(.v 24),(-9223372036854775808),9223372036854775807⟩]
def zmK:St:=⟨[(8,⟨[],.int .i64 ⟨(.v 14),0,4⟩⟩),(7,⟨[],.int .i64 ⟨(.v 13),(-4000),4000⟩⟩),(3,⟨[],.ptr 0 0⟩),(1,⟨[],.osl 0 [.int .i64 (-9223372036854775808) 9223372036854775807,.int .i64 (-9223372036854775808) 9223372036854775807,.bool] ⟨(.v 4),0,4⟩⟩),(2,⟨[],.int .i64 ⟨(.v 24),(-9223372036854775808),9223372036854775807⟩⟩)],[(0,⟨[],⟨[.int .i64 ⟨(.v 20),1,1000⟩,.int .i64 ⟨(.v 21),1,1000⟩,.int .i64 ⟨(.v 22),0,1000⟩,.int .i64 ⟨(.v 23),1,10⟩],77,.full⟩⟩)],1,25⟩
def zqY:List LS:=[⟨[],.normal,zmK,⟨[(14,(.c 0)),(13,(.c 0))],[]⟩⟩]
def zqb:List VC:=[]
theorem zic:ran (ya Tryz.prog 44 (qb zaF QS 50 12) 103 (qG Tryz.prog 103 0 3) (start Tryz.prog 103 GI [] 0)) zqY zqb=true:=by kernel_rfl
def zph:List VC:=[]
theorem zdW:qL zqb [] []=zph:=by kernel_rfl
theorem zmL:zph.all VC.isNo=true:=by kernel_rfl
theorem zpi (ρ:Env):ye ρ zph=(True):=by kernel_rfl
def zqZ:List LS:=[⟨[(.bin .lt (.v 14) (.v 4))],.normal,zmK,⟨[(14,(.bin .add (.v 14) (.c 1))),(13,(.v 1848989708117186001))],[]⟩⟩,
 ⟨[(.bin .le (.v 4) (.v 14))],(.exit 0),zmK,⟨[],[]⟩⟩]
def zpj:List VC:=[⟨[(pT (.v 14) (.v 4))],(pQ (.ap 88 (.cons (.v 20) (.cons (.v 21) (.cons (.v 22) (.cons (.v 23) (.cons (.ap 1000 (.cons (.v 14) .nil)) (.cons (.ap 1001 (.cons (.v 14) .nil)) (.cons (.ite (.ap 1002 (.cons (.v 14) .nil)) (.c 1) (.c 0)) .nil)))))))) (.c 0))⟩,
 qN 1848989708117186001 (pA (.v 13) (.ap 83 (.cons (.v 20) (.cons (.v 21) (.cons (.ap 1000 (.cons (.v 14) .nil)) (.cons (.ite (.ap 1002 (.cons (.v 14) .nil)) (.c 1) (.c 0)) (.cons (.v 24) .nil)))))))]
theorem zid:ran (ya Tryz.prog 44 (qb zaF QS 50 12) 103 (k9 Tryz.prog 103 3) zmK) zqZ zpj=true:=by kernel_rfl
def zpk:List VC:=[⟨[(pT (.v 14) (.v 4))],(pQ (.ap 88 (.cons (.v 20) (.cons (.v 21) (.cons (.v 22) (.cons (.v 23) (.cons (.ap 1000 (.cons (.v 14) .nil)) (.cons (.ap 1001 (.cons (.v 14) .nil)) (.cons (.ite (.ap 1002 (.cons (.v 14) .nil)) (.c 1) (.c 0)) .nil)))))))) (.c 0))⟩]
theorem zdX:qL zpj [] []=zpk:=by kernel_rfl
theorem zmM:zpk.all VC.isNo=true:=by kernel_rfl
theorem zpl (ρ:Env):ye ρ zpk=(((decide ((ρ.iv 14)<(ρ.iv 4)))=true/\True->(decide ((ρ.fn 88 ((ρ.iv 20)::((ρ.iv 21)::((ρ.iv 22)::((ρ.iv 23)::((ρ.fn 1000 ((ρ.iv 14)::[]))::((ρ.fn 1001 ((ρ.iv 14)::[]))::((if(ρ.fb 1002 ((ρ.iv 14)::[]))=true then(1:Int)else(0:Int))::[]))))))))=(0:Int)))=true)/\True):=by kernel_rfl
theorem zdY (ρ:Env):qA ρ zpj=(True/\
 ρ.iv 1848989708117186001=((ρ.iv 13)+(ρ.fn 83 ((ρ.iv 20)::((ρ.iv 21)::((ρ.fn 1000 ((ρ.iv 14)::[]))::((if(ρ.fb 1002 ((ρ.iv 14)::[]))=true then(1:Int)else(0:Int))::((ρ.iv 24)::[])))))))/\
 True):=by kernel_rfl
theorem zdZ (ρ:Env):kJ ρ [(.bin .lt (.v 14) (.v 4))]=((decide ((ρ.iv 14)<(ρ.iv 4)))=true/\True):=by kernel_rfl
theorem zd0 (ρ:Env):kJ ρ [(.bin .le (.v 4) (.v 14))]=((decide ((ρ.iv 4)<=(ρ.iv 14)))=true/\True):=by kernel_rfl
def zq0:List LS:=[⟨[],.ret,⟨[(6,⟨[],.int .i64 ⟨(.v 900),(-4000),4000⟩⟩)],[],0,25⟩,⟨[(900,(.v 13))],[]⟩⟩]
def zqc:List VC:=[]
theorem zie:ran (ya Tryz.prog 44 (qb zaF QS 50 12) 103 (qG Tryz.prog 103 4 6) zmK) zq0 zqc=true:=by kernel_rfl
def zpm:List VC:=[]
theorem zd1:qL zqc [] []=zpm:=by kernel_rfl
theorem zmN:zpm.all VC.isNo=true:=by kernel_rfl
theorem zpn (ρ:Env):ye ρ zpm=(True):=by kernel_rfl
end Go.Proofs.YtoakpnoajmngmaaGreatDoor.Sx
namespace Go.Proofs.YtoakpnoajmngmaaGreatDoor.Sx
open Go.RowKit
def shM (g:GD) (t r s c x:Int):Nat->Int:=fun k=>match k with|4=>g.n|20=>t|21=>r|22=>s|23=>c|24=>x|_=>0
def shK (t r s c x y l:Int):Nat->Int:=fun k=>match k with|20=>t|21=>r|22=>s|23=>c|30=>x|31=>y|33=>l|_=>0
structure ShB (g:GD) (t r s c x:Int) (ρ:Env):Prop where
 std:Std shF noB (fun _=>g) ρ
 l4:ρ.iv 4=g.n
 e20:ρ.iv 20=t
 e21:ρ.iv 21=r
 e22:ρ.iv 22=s
 e23:ρ.iv 23=c
 e24:ρ.iv 24=x
theorem ShB.same {g:GD} {t r s c x:Int} {ρ ρ':Env} (h:ShB g t r s c x ρ) (hs:Same ρ ρ' [] []):ShB g t r s c x ρ':=⟨h.std.same hs,(zz hs (n:=4) rfl).trans h.l4,(zz hs (n:=20) rfl).trans h.e20,(zz hs (n:=21) rfl).trans h.e21,(zz hs (n:=22) rfl).trans h.e22,(zz hs (n:=23) rfl).trans h.e23,(zz hs (n:=24) rfl).trans h.e24⟩
theorem Jm.shb {g:GD} {t r s c x:Int} {ρ:Env} (h:Jm shF noB (fun _=>g) (shM g t r s c x) (fun _=>false) ρ):ShB g t r s c x ρ:=⟨h.std,h.at_ 4 rfl,h.at_ 20 rfl,h.at_ 21 rfl,h.at_ 22 rfl,h.at_ 23 rfl,h.at_ 24 rfl⟩
structure ShI (g:GD) (t r s c x:Int) (ρ:Env):Prop where
 b:ShB g t r s c x ρ
 low:0<=ρ.iv 14
 high:ρ.iv 14<=g.n
 acc:ρ.iv 13=q8 g t r x (ρ.iv 14).toNat
theorem ShI.same {g:GD} {t r s c x:Int} {ρ ρ':Env} (h:ShI g t r s c x ρ) (hs:Same ρ ρ' [] []):ShI g t r s c x ρ'/\(g.n-ρ'.iv 14).toNat=(g.n-ρ.iv 14).toNat:=by
 have e:=zz hs (n:=14) rfl
 have e':=zz hs (n:=13) rfl
 exact⟨⟨h.b.same hs,by rw[e];exact h.low,by rw[e];exact h.high,by rw[e,e'];exact h.acc⟩,by rw[e]⟩
structure ShJ (g:GD) (t r s c:Int) (ρ:Env):Prop where
 b:ShB g t r s c 0 ρ
 low:0<=ρ.iv 14
 high:ρ.iv 14<=g.n
 acc:ρ.iv 13=psm g t r s c g.n (ρ.iv 14).toNat
theorem ShJ.same {g:GD} {t r s c:Int} {ρ ρ':Env} (h:ShJ g t r s c ρ) (hs:Same ρ ρ' [] []):ShJ g t r s c ρ'/\(g.n-ρ'.iv 14).toNat=(g.n-ρ.iv 14).toNat:=by
 have e:=zz hs (n:=14) rfl
 have e':=zz hs (n:=13) rfl
 exact⟨⟨h.b.same hs,by rw[e];exact h.low,by rw[e];exact h.high,by rw[e,e'];exact h.acc⟩,by rw[e]⟩
set_option maxRecDepth 100000 in
set_option maxHeartbeats 1000000 in
theorem GJ (t r s c x y:Int) (o:Bool) (l:Int) (w:World) (hps:zj t r s c x y o=0) (by_:B64 y) (bl:B64 l):
  Calls Tryz.prog 104 #[.agg #[.int .i64 t,.int .i64 r,.int .i64 s,.int .i64 c],.agg #[.int .i64 x,.int .i64 y,.bool o],.int .i64 l] w fun e w'=>e= .returned (.int .i64 (ptk t r x o l))/\Below w.heap.size w w':=by
 obtain⟨⟨a1,a2,a3,a4,a5,a6,a7,a8⟩,b1,b2,b3,b4,b5,b6⟩:=zU hps
 unfold B64 at by_ bl
 obtain⟨ρ0,h0⟩:=Jm.start shF noB (fun _=>GD.none) (shK t r s c x y l) (fun k=>if k=32 then o else false)
 have e20:ρ0.iv 20=t:=h0.at_ 20 rfl
 have e21:ρ0.iv 21=r:=h0.at_ 21 rfl
 have e22:ρ0.iv 22=s:=h0.at_ 22 rfl
 have e23:ρ0.iv 23=c:=h0.at_ 23 rfl
 have e30:ρ0.iv 30=x:=h0.at_ 30 rfl
 have e31:ρ0.iv 31=y:=h0.at_ 31 rfl
 have e33:ρ0.iv 33=l:=h0.at_ 33 rfl
 have e32:ρ0.bv 32=o:=h0.bt 32 rfl
 have hm:=h0.mem (w:=w) (fun _=>GD.none_ok w)
 have key:=kq (P:=Tryz.prog) (cfg:=qb jS zaG 50 12) Tryz.func104 rfl (args:=GH) (H:=[]) (nx:=0) zib zdU zmJ (V:= .int .i64 (ptk t r x o l)) (Jm shF noB (fun _=>GD.none) (shK t r s c x y l) (fun k=>if k=32 then o else false))
  (fun ρ h=>⟨h.std.et,zP _ _⟩) (fun ρ ρ' h hs=>h.same hs) (by kernel_rfl)
  (fun ρ h=>by
   have e20:ρ.iv 20=t:=h.at_ 20 rfl
   have e21:ρ.iv 21=r:=h.at_ 21 rfl
   have e22:ρ.iv 22=s:=h.at_ 22 rfl
   have e23:ρ.iv 23=c:=h.at_ 23 rfl
   have e30:ρ.iv 30=x:=h.at_ 30 rfl
   have e31:ρ.iv 31=y:=h.at_ 31 rfl
   have e33:ρ.iv 33=l:=h.at_ 33 rfl
   refine List.forall_mem_cons.2 ⟨?_,List.forall_mem_cons.2 ⟨?_,List.forall_mem_cons.2 ⟨?_,List.forall_mem_cons.2 ⟨?_,List.forall_mem_cons.2 ⟨?_,List.forall_mem_cons.2 ⟨?_,List.forall_mem_cons.2 ⟨?_,fun _ h=>nomatch h⟩⟩⟩⟩⟩⟩⟩
   ·exact zg (z:=ρ.iv 20) rfl (by show(1:Int)<=ρ.iv 20;omega) (by show ρ.iv 20<=1000;omega)
   ·exact zg (z:=ρ.iv 21) rfl (by show(1:Int)<=ρ.iv 21;omega) (by show ρ.iv 21<=1000;omega)
   ·exact zg (z:=ρ.iv 22) rfl (by show(0:Int)<=ρ.iv 22;omega) (by show ρ.iv 22<=1000;omega)
   ·exact zg (z:=ρ.iv 23) rfl (by show(1:Int)<=ρ.iv 23;omega) (by show ρ.iv 23<=10;omega)
   ·exact zg (z:=ρ.iv 30) rfl (by show(-1000:Int)<=ρ.iv 30;omega) (by show ρ.iv 30<=1000;omega)
   ·exact zg (z:=ρ.iv 31) rfl (by show(-9223372036854775808:Int)<=ρ.iv 31;omega) (by show ρ.iv 31<=9223372036854775807;omega)
   ·exact zg (z:=ρ.iv 33) rfl (by show(-9223372036854775808:Int)<=ρ.iv 33;omega) (by show ρ.iv 33<=9223372036854775807;omega))
  (fun ρ h hv=>Eq.mpr (zpg ρ) (by
   trivial))
  (by
   refine List.forall_mem_cons.2 ⟨?_,fun _ h=>nomatch h⟩
   ·intro ρ h hv hp
    refine⟨.inr rfl,List.forall_mem_cons.2 ⟨?_,fun _ h=>nomatch h⟩,[.int .i64 ⟨(.v 900),(-1000),1000⟩],by kernel_rfl,fun b=>?_⟩
    all_goals have e20:ρ.iv 20=t:=h.at_ 20 rfl
    all_goals have e21:ρ.iv 21=r:=h.at_ 21 rfl
    all_goals have e30:ρ.iv 30=x:=h.at_ 30 rfl
    all_goals have e33:ρ.iv 33=l:=h.at_ 33 rfl
    all_goals have e32:ρ.bv 32=o:=h.bt 32 rfl
    all_goals obtain⟨k1,-⟩:=Eq.mp (zdV ρ) hv
    all_goals rw[e20,e21,e30,e32,e33]at k1
    ·refine zg (z:=ptk t r x o l) ?_ (by have:=Kn hps l;show(-1000:Int)<=_;omega) (by have:=Kn hps l;show _<=(1000:Int);omega)
     show min (ρ.iv 286107394256503435) (if ρ.bv 32=true then 0 else min (ρ.iv 30+ρ.iv 21) (ρ.iv 20))=_
     rw[k1,e20,e21,e30,e32]
     unfold ptk
     cases o
     ·simp only[Bool.false_eq_true,if_false];congr 2;omega
     ·simp only[if_true];omega
    ·show Value.int .i64 (min (ρ.iv 286107394256503435) (if ρ.bv 32=true then 0 else min (ρ.iv 30+ρ.iv 21) (ρ.iv 20)))=_
     rw[k1,e20,e21,e30,e32]
     congr 1
     unfold ptk
     cases o
     ·simp only[Bool.false_eq_true,if_false];congr 2;omega
     ·simp only[if_true];omega)
  h0 ⟨fun _=>0,fun _=>0,fun _=>0⟩ w (qU _ _ _ _) (by
     refine⟨⟨?_,?_,?_,?_,trivial⟩,⟨?_,?_,trivial,trivial⟩,?_,trivial⟩
     all_goals refine⟨?_,?_⟩
     all_goals simp only[E.i,e20,e21,e22,e23,e30,e31,e33]
     all_goals omega) hm
 have e:SV.denL ρ0 ⟨fun _=>0,fun _=>0,fun _=>0⟩ GH=[.agg #[.int .i64 t,.int .i64 r,.int .i64 s,.int .i64 c],.agg #[.int .i64 x,.int .i64 y,.bool o],.int .i64 l]:=by
  unfold GH
  simp only[SV.denL]
  simp only[zA,jM,SV.denL,zh,E.i,E.b,e20,e21,e22,e23,e30,e31,e32,e33]
 rw[e]at key
 exact key
theorem zfu {G:Nat->GD} {ρ:Env} (h:Std shF noB G ρ):HOK Tryz.prog ρ zaF:=zdT h fun t r s c x y o l w hp b0 b1=>GJ t r s c x y o l w hp b0 b1
set_option maxRecDepth 100000 in
set_option maxHeartbeats 1000000 in
theorem zd2 (g:GD) (hk:g.ks=[true,true,false]) (t r s c x:Int) (w:World) (o:g.ok w) (hps:qj g t r s c=0) (bx:B64 x):
  Calls Tryz.prog 103 #[.agg #[.int .i64 t,.int .i64 r,.int .i64 s,.int .i64 c],.slice g.A g.n g.c,.int .i64 x] w fun e w'=>e= .returned (.int .i64 (q8 g t r x g.n))/\Below w.heap.size w w':=by
 unfold B64 at bx
 have hs0:=xJ _ hps
 obtain⟨⟨a1,a2,a3,a4,a5,a6,a7,a8⟩,b1,b2,b3⟩:=hs0
 obtain⟨ρ0,hj⟩:=Jm.start shF noB (fun _=>g) (shM g t r s c x) (fun _=>false)
 have h0:=hj.shb
 have hG:∀k:Nat,((fun _=>g) k).ok w:=fun _=>o
 have hm:=hj.mem (w:=w) hG
 obtain⟨s1,s2⟩:=h0.std.osl hG (k:=0) (sh:=[.int .i64 (-9223372036854775808) 9223372036854775807,.int .i64 (-9223372036854775808) 9223372036854775807,.bool]) (by show g.ks.map vN=_;rw[hk];rfl) (by show g.ks.length<=100;rw[hk];decide) (e:= .v 4) (lo:=0) (hi:=4) h0.l4 (by decide) (by show(0:Int)<=g.n;omega) (by show(g.n:Int)<=4;omega) (· <0) ⟨fun _=>0,fun _=>0,fun _=>0⟩
 clear hj
 have key:=jh (P:=Tryz.prog) (cfg:=qb zaF QS 50 12) Tryz.func103 rfl (k:=3) (i:=0) (n:=6) (by decide+kernel) (by kernel_rfl) (args:=GI) (H:=[]) (nx:=0) zic zdW zmL zid zdX zmM zie zd1 zmN (V:= .int .i64 (q8 g t r x g.n)) (ShB g t r s c x) (ShI g t r s c x) (fun ρ=>ShI g t r s c x ρ/\g.n<=ρ.iv 14) (fun ρ=>(g.n-ρ.iv 14).toNat)
  (fun ρ h=>⟨h.std.et,zfu h.std⟩) (fun ρ h=>⟨h.b.std.et,zfu h.b.std⟩) (fun ρ ρ' h hs=>h.same hs) (fun ρ ρ' h hs=>h.same hs) (fun ρ h=>h.1) (fun ρ ρ' h hs=>⟨(h.1.same hs).1,by rw[zz hs (n:=14) rfl];exact h.2⟩) (by kernel_rfl)
  (fun ρ h=>by
   have e20:ρ.iv 20=t:=h.e20
   have e21:ρ.iv 21=r:=h.e21
   have e22:ρ.iv 22=s:=h.e22
   have e23:ρ.iv 23=c:=h.e23
   have e24:=h.e24
   have h4:=h.l4
   have hz:=bx
   refine List.forall_mem_cons.2 ⟨?_,List.forall_mem_cons.2 ⟨?_,List.forall_mem_cons.2 ⟨?_,List.forall_mem_cons.2 ⟨?_,List.forall_mem_cons.2 ⟨?_,List.forall_mem_cons.2 ⟨?_,fun _ h=>nomatch h⟩⟩⟩⟩⟩⟩
   ·exact zg (z:=ρ.iv 20) rfl (by show(1:Int)<=ρ.iv 20;omega) (by show ρ.iv 20<=1000;omega)
   ·exact zg (z:=ρ.iv 21) rfl (by show(1:Int)<=ρ.iv 21;omega) (by show ρ.iv 21<=1000;omega)
   ·exact zg (z:=ρ.iv 22) rfl (by show(0:Int)<=ρ.iv 22;omega) (by show ρ.iv 22<=1000;omega)
   ·exact zg (z:=ρ.iv 23) rfl (by show(1:Int)<=ρ.iv 23;omega) (by show ρ.iv 23<=10;omega)
   ·exact zg (z:=ρ.iv 4) rfl (by show(0:Int)<=ρ.iv 4;omega) (by show ρ.iv 4<=4;omega)
   ·exact zg (z:=ρ.iv 24) rfl (by show(-9223372036854775808:Int)<=ρ.iv 24;omega) (by show ρ.iv 24<=9223372036854775807;omega))
  (fun ρ h=>by
   have e20:ρ.iv 20=t:=h.b.e20
   have e21:ρ.iv 21=r:=h.b.e21
   have e22:ρ.iv 22=s:=h.b.e22
   have e23:ρ.iv 23=c:=h.b.e23
   have e24:=h.b.e24
   have h4:=h.b.l4
   have h5:=h.low
   have h6:=h.high
   have h7:=h.acc
   have h8:=QR (n:=0) (ρ.iv 14).toNat (fun i hi=>b3 i (by omega)) x
   have m1:t*((ρ.iv 14).toNat:Int)<=1000*4:=Int.mul_le_mul a2 (by omega) (by omega) (by omega)
   have m2: -t*((ρ.iv 14).toNat:Int)= -(t*(ρ.iv 14).toNat):=Int.neg_mul _ _
   rw[m2]at h8
   refine List.forall_mem_cons.2 ⟨?_,List.forall_mem_cons.2 ⟨?_,List.forall_mem_cons.2 ⟨?_,List.forall_mem_cons.2 ⟨?_,List.forall_mem_cons.2 ⟨?_,List.forall_mem_cons.2 ⟨?_,List.forall_mem_cons.2 ⟨?_,List.forall_mem_cons.2 ⟨?_,fun _ h=>nomatch h⟩⟩⟩⟩⟩⟩⟩⟩
   ·exact zg (z:=ρ.iv 14) rfl (by show(0:Int)<=ρ.iv 14;omega) (by show ρ.iv 14<=4;omega)
   ·exact zg (z:=ρ.iv 13) rfl (by show(-4000:Int)<=ρ.iv 13;omega) (by show ρ.iv 13<=4000;omega)
   ·exact zg (z:=ρ.iv 4) rfl (by show(0:Int)<=ρ.iv 4;omega) (by show ρ.iv 4<=4;omega)
   ·exact zg (z:=ρ.iv 24) rfl (by show(-9223372036854775808:Int)<=ρ.iv 24;omega) (by show ρ.iv 24<=9223372036854775807;omega)
   ·exact zg (z:=ρ.iv 20) rfl (by show(1:Int)<=ρ.iv 20;omega) (by show ρ.iv 20<=1000;omega)
   ·exact zg (z:=ρ.iv 21) rfl (by show(1:Int)<=ρ.iv 21;omega) (by show ρ.iv 21<=1000;omega)
   ·exact zg (z:=ρ.iv 22) rfl (by show(0:Int)<=ρ.iv 22;omega) (by show ρ.iv 22<=1000;omega)
   ·exact zg (z:=ρ.iv 23) rfl (by show(1:Int)<=ρ.iv 23;omega) (by show ρ.iv 23<=10;omega))
  (fun ρ h hv=>Eq.mpr (zpi ρ) (by
   trivial))
  (fun ρ h hv=>Eq.mpr (zpl ρ) (by
   have h4:=h.b.l4
   have h5:=h.low
   have e20:=h.b.e20
   have e21:=h.b.e21
   have e22:=h.b.e22
   have e23:=h.b.e23
   refine⟨fun⟨cc,_⟩=>decide_eq_true ?_,trivial⟩
   have cc:=of_decide_eq_true cc
   rw[e20,e21,e22,e23]
   have f0:ρ.fn 1000 [ρ.iv 14]=g.fi (ρ.iv 14).toNat 0:=h.b.std.e (k:=0) (j:=0) rfl _
   have f1:ρ.fn 1001 [ρ.iv 14]=g.fi (ρ.iv 14).toNat 1:=h.b.std.e (k:=0) (j:=1) rfl _
   have f2:ρ.fb 1002 [ρ.iv 14]=g.fb (ρ.iv 14).toNat 2:=h.b.std.eb (k:=0) (j:=2) rfl _
   rw[f0,f1,f2,h.b.std.f rfl]
   show zj _ _ _ _ _ _ (decide _)=0
   rw[zdS]
   exact b3 _ (by omega)))
  (fun ρ h hv=>Eq.mpr (zpn ρ) (by
   trivial))
  (by
   refine List.forall_mem_cons.2 ⟨?_,fun _ h=>nomatch h⟩
   ·intro ρ h hv hp
    refine .inr ⟨rfl,rfl,?_⟩
    exact⟨⟨h.std.sub _,h.l4,h.e20,h.e21,h.e22,h.e23,h.e24⟩,Int.le_refl _,Int.natCast_nonneg _,rfl⟩)
  (by
   refine List.forall_mem_cons.2 ⟨?_,List.forall_mem_cons.2 ⟨?_,fun _ h=>nomatch h⟩⟩
   ·intro ρ h hv hp
    obtain⟨c0,_⟩:=Eq.mp (zdZ ρ) hp
    refine .inl ⟨rfl,rfl,?_,?_⟩
    ·obtain⟨-,k1,-⟩:=Eq.mp (zdY ρ) hv
     have cc:=of_decide_eq_true c0
     have h4:=h.b.l4
     have h5:=h.low
     have ek:(ρ.iv 14+1).toNat=(ρ.iv 14).toNat+1:=by omega
     have f0:ρ.fn 1000 [ρ.iv 14]=g.fi (ρ.iv 14).toNat 0:=h.b.std.e (k:=0) (j:=0) rfl _
     have f2:ρ.fb 1002 [ρ.iv 14]=g.fb (ρ.iv 14).toNat 2:=h.b.std.eb (k:=0) (j:=2) rfl _
     have e83:ρ.fn 83 [t,r,g.fi (ρ.iv 14).toNat 0,if g.fb (ρ.iv 14).toNat 2=true then 1 else 0,x]=ptk t r (g.fi (ρ.iv 14).toNat 0) (g.fb (ρ.iv 14).toNat 2) x:=by
      rw[h.b.std.f rfl]
      show ptk _ _ _ (decide _) _=_
      rw[zdS]
     rw[f0,f2,h.b.e20,h.b.e21,h.b.e24,e83,h.acc]at k1
     exact⟨⟨h.b.std.sub _,h.b.l4,h.b.e20,h.b.e21,h.b.e22,h.b.e23,h.b.e24⟩,by show 0<=ρ.iv 14+1;omega,by show ρ.iv 14+1<=g.n;omega,by show ρ.iv 1848989708117186001=q8 g t r x (ρ.iv 14+1).toNat;rw[k1,ek];rfl⟩
    ·have cc:=of_decide_eq_true c0
     have h4:=h.b.l4
     have h5:=h.low
     show(g.n-(ρ.iv 14+1)).toNat<(g.n-ρ.iv 14).toNat
     omega
   ·intro ρ h hv hp
    obtain⟨c0,_⟩:=Eq.mp (zd0 ρ) hp
    refine .inr (.inl ⟨rfl,rfl,?_⟩)
    have cc:=of_decide_eq_true c0
    have h4:=h.b.l4
    exact⟨⟨⟨h.b.std.sub _,h.b.l4,h.b.e20,h.b.e21,h.b.e22,h.b.e23,h.b.e24⟩,h.low,h.high,h.acc⟩,by show(g.n:Int)<=ρ.iv 14;omega⟩)
  (by
   refine List.forall_mem_cons.2 ⟨?_,fun _ h=>nomatch h⟩
   ·intro ρ h hv hp
    refine⟨.inr rfl,List.forall_mem_cons.2 ⟨?_,fun _ h=>nomatch h⟩,[.int .i64 ⟨(.v 900),(-4000),4000⟩],by kernel_rfl,fun b=>?_⟩
    all_goals have h5:=h.1.low
    all_goals have h6:=h.1.high
    all_goals have h7:=h.2
    all_goals have hq:=h.1.acc
    all_goals rw[show(ρ.iv 14).toNat=g.n by omega]at hq
    ·have:=Ko hps x
     exact zg (z:=ρ.iv 13) rfl (by show(-4000:Int)<=_;omega) (by show _<=(4000:Int);omega)
    ·show Value.int .i64 (ρ.iv 13)=_
     rw[hq])
  h0 ⟨fun _=>0,fun _=>0,fun _=>0⟩ w (qU _ _ _ _) (by
     refine⟨⟨⟨?_,?_⟩,⟨?_,?_⟩,⟨?_,?_⟩,⟨?_,?_⟩,trivial⟩,s1,⟨?_,?_⟩,trivial⟩
     all_goals simp only[E.i,h0.e20,h0.e21,h0.e22,h0.e23,h0.e24]
     all_goals omega) hm
 have e:SV.denL ρ0 ⟨fun _=>0,fun _=>0,fun _=>0⟩ GI=[.agg #[.int .i64 t,.int .i64 r,.int .i64 s,.int .i64 c],.slice g.A g.n g.c,.int .i64 x]:=by
  unfold GI
  simp only[SV.denL]
  simp only[zA,SV.denL,zh,E.i,h0.e20,h0.e21,h0.e22,h0.e23,h0.e24]
  rw[s2]
 rw[e]at key
 exact key
end Go.Proofs.YtoakpnoajmngmaaGreatDoor.Sx
namespace Go.Proofs.YtoakpnoajmngmaaGreatDoor.Sx
open Go.RowKit
theorem zd3 (t r is:Int) (o:Bool) {x y:Int} (h:x<=y):ptk t r is o x<=ptk t r is o y:=by
 unfold ptk
 split<;>omega
theorem kx (g:GD) (t r:Int) {x y:Int} (h:x<=y):∀n,q8 g t r x n<=q8 g t r y n
 |0=>by simp[q8]
 |k+1=>by
  have h1:=kx g t r h k
  have h2:=zd3 t r (g.fi k 0) (g.fb k 2) h
  simp only[q8]
  omega
def YH (g:GD) (t r sum:Int):List Int:=(List.range g.n).map (Wi g t r sum)
def wy (g:GD) (t r:Int) (k:Nat):Zr:=if k<g.n/\g.fb k 2=false then some (Xf t r (g.fi k 0),Xg t r (g.fi k 0))else none
theorem QT {g:GD} {t r:Int} {k:Nat} (ho:g.fb k 2=true):wy g t r k=none:=by
 unfold wy;rw[if_neg (by rw[ho];rintro⟨_,h⟩;cases h)]
theorem YI {g:GD} {t r:Int} {k:Nat} (hk:k<g.n) (ho:g.fb k 2=false):wy g t r k=some (Xf t r (g.fi k 0),Xg t r (g.fi k 0)):=by
 unfold wy;rw[if_pos ⟨hk,ho⟩]
theorem gp {g:GD} {t r s c:Int} {k:Nat} (hk:k<g.n) (h:zj t r s c (g.fi k 0) (g.fi k 1) (g.fb k 2)=0) (x:Int):pat (wy g t r k) x=ptk t r (g.fi k 0) (g.fb k 2) x:=by
 obtain⟨⟨a1,a2,a3,a4,a5,a6,a7,a8⟩,b1,b2,b3,b4,_,_⟩:=zU h
 cases ho:g.fb k 2
 ·rw[YI hk ho]
  unfold ptk
  rw[if_neg (by decide)]
  show zm x (Xf t r _) (Xg t r _)=_
  unfold zm Xf Xg
  (repeat' split)<;>omega
 ·rw[QT ho]
  unfold ptk
  rw[if_pos rfl]
  rfl
theorem zaH {g:GD} {t r s c:Int} (h:∀k,k<g.n->zj t r s c (g.fi k 0) (g.fi k 1) (g.fb k 2)=0) (k:Nat):jt (wy g t r k):=by
 by_cases hk:k<g.n
 ·obtain⟨⟨a1,a2,a3,a4,a5,a6,a7,a8⟩,b1,b2,b3,b4,_,_⟩:=zU (h k hk)
  cases ho:g.fb k 2
  ·rw[YI hk ho]
   unfold jt Xf Xg
   simp only
   omega
  ·rw[QT ho];trivial
 ·unfold wy
  rw[if_neg (fun h=>hk h.1)]
  trivial
theorem yB {g:GD} {t r s c:Int} (h:∀k,k<g.n->zj t r s c (g.fi k 0) (g.fi k 1) (g.fb k 2)=0) (x:Int):∀k,k<=g.n->yO (wy g t r) x k=q8 g t r x k
 |0,_=>rfl
 |k+1,hk=>by
  simp only[yO,q8]
  rw[yB h x k (by omega),gp (by omega) (h k (by omega))]
theorem Kp {g:GD} {t r s c:Int} {n k:Nat} (h:psm g t r s c n k≠0):∀j,psm g t r s c n (k+j)=psm g t r s c n k
 |0=>rfl
 |j+1=>by
  have ih:=Kp h j
  show(if psm g t r s c n (k+j)=0 then _ else psm g t r s c n (k+j))=_
  rw[ih,if_neg h]
theorem zmO {g:GD} {t r s c:Int} {n k:Nat} (h:psm g t r s c n k≠0) (hk:k<=n):psm g t r s c n n=psm g t r s c n k:=by
 have:=Kp h (n-k)
 rwa[show k+(n-k)=n by omega]at this
theorem QU {g:GD} {w:World} (o:g.ok w) (hk:g.ks=[true,true,false]) (hn:0<g.n):∃bl off,g.A=some ⟨bl,off,none⟩/\bl<w.heap.size/\∀i,i<g.n->
  w.cell? ⟨bl,off+i*3,none⟩=some (.int .i64 (g.fi i 0))/\w.cell? ⟨bl,off+i*3+1,none⟩=some (.int .i64 (g.fi i 1))/\w.cell? ⟨bl,off+i*3+2,none⟩=some (.bool (g.fb i 2)):=by
 obtain⟨bl,off,e1,e2,e3⟩:=o.cell 0 0 hn (by rw[hk];decide)
 refine⟨bl,off,e1,e2,fun i hi=>?_⟩
 have hc:∀j,j<3->w.cell? ⟨bl,off+(i*3+j),none⟩=some (g.val i j):=fun j hj=>by
  obtain⟨bl',off',e1',_,e3'⟩:=o.cell i j hi (by rw[hk];exact hj)
  rw[e1]at e1'
  cases e1'
  rw[hk]at e3'
  exact e3'
 have h0:=hc 0 (by omega)
 have h1:=hc 1 (by omega)
 have h2:=hc 2 (by omega)
 unfold GD.val at h0 h1 h2
 rw[hk]at h0 h1 h2
 exact⟨h0,h1,h2⟩
theorem mz (t r s c is bad:Int) (o:Bool) (w:World):Calls Tryz.prog 119 #[.agg #[.int .i64 t,.int .i64 r,.int .i64 s,.int .i64 c],.agg #[.int .i64 is,.int .i64 bad,.bool o]] w fun e w'=>
  e= .returned (.tuple #[.agg #[.int .i64 (plo t r s c is bad o),.int .i64 (phi t r s c is bad o)],qp (zj t r s c is bad o)])/\Below w.heap.size w w':=by
 by_cases h:zj t r s c is bad o=0
 ·unfold plo phi
  cases o with
  |true=>
   rw[if_neg (by simp),if_neg (by simp),h]
   exact vI t r s c is bad w h
  |false=>
   rw[if_pos ⟨h,rfl⟩,if_pos ⟨h,rfl⟩,h]
   exact mB t r s c is bad _ _ w h rfl rfl
 ·unfold plo phi
  rw[if_neg (fun q=>h q.1),if_neg (fun q=>h q.1)]
  exact Kq t r s c is bad o w h
theorem zd4:(Tryz.prog.info? 210).map (fun i=>(i.zero,i.size,i.bytes))=some (some .nilIface,1,16):=by kernel_rfl
theorem jl {w w1:World} {base:Nat} {e:TypeId} {size:Nat} {v:Value} {n:Nat} {xs:List Value} (h:w.ownsRow base e size v n xs) (hb:Below w.heap.size w w1):w1.ownsRow base e size v n xs:=by
 obtain⟨h1,h2⟩:=h
 refine⟨h1,?_⟩
 rcases h2 with h2|⟨g,cap,cur,a1,a2,a3,a4,a5,a6,a7⟩
 ·exact .inl h2
 ·exact .inr ⟨g,cap,cur,a1,a2,(hb.block g (by rcases Nat.lt_or_ge g w.heap.size with h|h;(exact h);(rw[Array.getElem?_eq_none h]at a3;cases a3))).trans a3,a4,a5,a6,a7⟩
theorem yC {w:World} {base base':Nat} {e:TypeId} {size:Nat} {v:Value} {n:Nat} {xs:List Value} (h:w.ownsRow base e size v n xs) (hb:base'<=base):w.ownsRow base' e size v n xs:=by
 obtain⟨h1,h2⟩:=h
 refine⟨h1,?_⟩
 rcases h2 with h2|⟨g,cap,cur,a1,a2,a3⟩
 ·exact .inl h2
 ·exact .inr ⟨g,cap,cur,a1,Nat.le_trans hb a2,a3⟩
def ziL (g:GD) (t r:Int) (k:Nat):List Value:=(List.range k).map fun i=>vO (wy g t r i)
theorem zfv (g:GD) (t r:Int) (k:Nat):ziL g t r (k+1)=ziL g t r k++[vO (wy g t r k)]:=by
 unfold ziL;rw[List.range_succ,List.map_append];rfl
theorem zmP {g:GD} {t r s c:Int} {n:Nat} (h:z8 t r s c=0) (h1:1<=n) (h2:n<=4):psm g t r s c n 0=0:=by
 show(if z8 t r s c=0 then(if 1<=n/\n<=4 then(0:Int)else 2)else 1)=0
 rw[if_pos h,if_pos ⟨h1,h2⟩]
theorem zmQ {g:GD} {t r s c:Int} {n k:Nat} (h:psm g t r s c n k=0):psm g t r s c n (k+1)=zj t r s c (g.fi k 0) (g.fi k 1) (g.fb k 2):=if_pos h
theorem zif {g:GD} {t r s c:Int} {k:Nat} (hk:k<g.n) (h:zj t r s c (g.fi k 0) (g.fi k 1) (g.fb k 2)=0) (ho:g.fb k 2=false):vO (wy g t r k)= .iface 248 (.agg #[.int .i64 (plo t r s c (g.fi k 0) (g.fi k 1) (g.fb k 2)),.int .i64 (phi t r s c (g.fi k 0) (g.fi k 1) (g.fb k 2))]):=by
 rw[YI hk ho]
 unfold plo phi
 rw[if_pos ⟨h,ho⟩,if_pos ⟨h,ho⟩]
 rfl
theorem zd5 {g:GD} {t r:Int} {k:Nat} (ho:g.fb k 2=true):vO (wy g t r k)= .iface 247 (.agg #[]):=by
 rw[QT ho]
 rfl
set_option maxRecDepth 100000 in
set_option maxHeartbeats 1000000 in
theorem VK (g:GD) (hk:g.ks=[true,true,false]) (b1:1<=g.n) (b2:g.n<=4) (t r s c:Int) (w:World) (o:g.ok w) (hr:z8 t r s c=0):
  Calls Tryz.prog 115 #[.agg #[.int .i64 t,.int .i64 r,.int .i64 s,.int .i64 c],.slice g.A g.n g.c] w fun e w'=>
   ((qj g t r s c=0/\∃v,e= .returned (.tuple #[v,.nilIface])/\w'.ownsRow w.heap.size 210 1 v g.n (ziL g t r g.n))\/(qj g t r s c≠0/\e= .returned (.tuple #[.slice none 0 0,qp (qj g t r s c)])))/\Below w.heap.size w w':=by
 obtain⟨bl,off,eA,hbl,hrow⟩:=QU o hk b1
 have hr2:(z8 t r s c !=0)=false:=by rw[hr];rfl
 have HR:=Lib.hid hr
 have HW:=Lib.hid hrow
 have HN:Hid (qj g t r s c=psm g t r s c g.n g.n):=rfl
 have HL:Hid (∀k,k<g.n->k<g.n):=fun _ h=>h
 have HX:Hid (∀k,k<g.n->zj t r s c (g.fi k 0) (g.fi k 1) (g.fb k 2)=0->g.fb k 2=false->vO (wy g t r k)= .iface 248 (.agg #[.int .i64 (plo t r s c (g.fi k 0) (g.fi k 1) (g.fb k 2)),.int .i64 (phi t r s c (g.fi k 0) (g.fi k 1) (g.fb k 2))])):=fun k h h1 h2=>zif h h1 h2
 clear hr hk o hrow
 obtain⟨i0,hif,hza,hzb,hzc⟩:=info_parts zd4
 generalize g.n=n at*
 generalize qj g t r s c=pe at*
 rw[eA]
 go_enter Tryz.func115,Tryz.ntmps115
 go_wp2_with (go_at_call 93;((with_reducible refine(yE _ _ _ _ _).mono ?_);rintro e w' ⟨rfl,rfl⟩))
 go_loopw [7,28] (fun v i wr=>∃k:Nat,k<=n/\i= .int .i64 k/\Hid (psm g t r s c n k=0)/\wr.ownsRow (w.heap.size+1) 210 1 v k (ziL g t r k)/\Below (w.heap.size+1) (w.alloc (.cells #[.int .i64 t,.int .i64 r,.int .i64 s,.int .i64 c] 77)) wr) (fun _ i _=>n-(intOf i).toNat)
 case atStart=>exact⟨0,Nat.zero_le _,rfl,zmP HR.out (by omega) (by omega),World.ownsRow_nil _ _ _ _,Below.alloc (Below.refl _ _) (by simp) _⟩
 case round=>
  obtain⟨k,hkn,rfl,hz,hown,hbw⟩:=hrel
  have hsz:=hbw.size
  simp only[World.size_alloc]at hsz
  have hw0:Below w.heap.size w wr:=((Below.refl _ _).alloc (Nat.le_refl _) _).trans (hbw.mono (by omega))
  have hR:∀i,wr.cell? ⟨w.heap.size,i,none⟩=(#[.int .i64 t,.int .i64 r,.int .i64 s,.int .i64 c]:Array Value)[i]? :=fun i=>(hbw.cell (p:=⟨w.heap.size,i,none⟩) (Nat.lt_succ_self _)).trans (World.cell?_alloc_mark w _ _ _ _)
  have hR0:wr.cell? ⟨w.heap.size,0,none⟩=some (.int .i64 t):=hR 0
  have hR1:wr.cell? ⟨w.heap.size,1,none⟩=some (.int .i64 r):=hR 1
  have hR2:wr.cell? ⟨w.heap.size,2,none⟩=some (.int .i64 s):=hR 2
  have hR3:wr.cell? ⟨w.heap.size,3,none⟩=some (.int .i64 c):=hR 3
  clear hR
  have hwl:w.heap.size<wr.heap.size:=hsz
  by_cases hlt:k<n
  ·have HC:=HW.out k hlt
   have hc0:wr.cell? ⟨bl,off+k*3,none⟩=_:=(hw0.cell (p:=⟨bl,_,none⟩) hbl).trans HC.1
   have hc1:wr.cell? ⟨bl,off+k*3+1,none⟩=_:=(hw0.cell (p:=⟨bl,_,none⟩) hbl).trans HC.2.1
   have hc2:wr.cell? ⟨bl,off+k*3+2,none⟩=_:=(hw0.cell (p:=⟨bl,_,none⟩) hbl).trans HC.2.2
   clear HC
   have hlb:bl<wr.heap.size:=by omega
   have Z1:Hid (psm g t r s c n (k+1)=zj t r s c (g.fi k 0) (g.fi k 1) (g.fb k 2)):=zmQ hz.out
   by_cases hp:zj t r s c (g.fi k 0) (g.fi k 1) (g.fb k 2)=0
   ·have hp2:(zj t r s c (g.fi k 0) (g.fi k 1) (g.fb k 2) !=0)=false:=by simpa using hp
    have Z2:Hid (psm g t r s c n (k+1)=0):=Z1.out.trans hp
    cases hf2:g.fb k 2
    ·have X1:=Lib.hid (HX.out k (HL.out k hlt) hp hf2)
     rw[hf2]at hc2 hp2 X1
     clear hp Z1 hf2
     have HA:=Lib.hid fun w=>mz t r s c (g.fi k 0) (g.fi k 1) false w
     generalize g.fi k 0=f0 at*
     generalize g.fi k 1=f1 at*
     generalize plo t r s c f0 f1 false=lo at*
     generalize phi t r s c f0 f1 false=hu at*
     go_wp2_with (first|(go_at_call 119;((with_reducible refine(HA.out _).mono ?_);rintro e w1 ⟨rfl,hb1⟩;have hz1:=hb1.size;simp only[World.size_alloc]at hz1;have hlw1:wr.heap.size<w1.heap.size:=hz1;have hq1:w1.cell? ⟨wr.heap.size,2,none⟩=some (.bool false):=(hb1.cell (p:=⟨wr.heap.size,2,none⟩) (by simp)).trans (World.cell?_alloc_mark wr _ _ _ 2)))|(at_builtin;go_loud (refine wpList_append_own _ rfl (.tmp 48) (.tmp 51) 204 rfl (w.heap.size+1) 210 i0 .nilIface 1 16 Tryz.underlying204 hif hza hzb hzc rfl (by decide) _ _ _ rfl (World.ownsRow.alloc (World.ownsRow.alloc (jl (World.ownsRow.alloc hown _) hb1) _) _) ⟨w1.heap.size+1,0,none⟩ 1 1 [.iface 248 (.agg #[.int .i64 lo,.int .i64 hu])] rfl rfl ?c1 ?c2 ?c3 ?c4 ?c5 ?_))|go_in)
     case c1=>
      intro j u hj
      match j,hj with
      |0,hj=>simp at hj;subst hj;simp[Addr.add]
     case c2=>intro u hu;simp at hu;subst hu;rfl
     case c3=>unfold maxLen;omega
     case c4=>omega
     case c5=>simp;omega
     intro v' w2 hown2 hgrow2 _
     rw[<-X1.out,<-zfv]at hown2
     have hB2:Below (w.heap.size+1) _ w2:=Below.grown (Below.alloc (Below.alloc (Below.trans (Below.alloc hbw (by omega) _) (hb1.mono (by simp;omega))) (by omega) _) (by simp;omega) _) hgrow2 (by simp;omega) (fun q hq=>(hown.lt q hq).1)
     clear hgrow2 hown hq1 hb1
     go_wp2
     go_roundw
     case rel=>exact⟨k+1,by omega,by go_num,Z2,hown2,hB2⟩
     case measure=>simp[intOf];omega
    ·have X1:Hid (vO (wy g t r k)= .iface 247 (.agg #[])):=zd5 hf2
     rw[hf2]at hc2 hp2
     clear hp Z1 hf2
     have HA:=Lib.hid fun w=>mz t r s c (g.fi k 0) (g.fi k 1) true w
     generalize g.fi k 0=f0 at*
     generalize g.fi k 1=f1 at*
     generalize plo t r s c f0 f1 true=lo at*
     generalize phi t r s c f0 f1 true=hu at*
     go_wp2_with (first|(go_at_call 119;((with_reducible refine(HA.out _).mono ?_);rintro e w1 ⟨rfl,hb1⟩;have hz1:=hb1.size;simp only[World.size_alloc]at hz1;have hlw1:wr.heap.size<w1.heap.size:=hz1;have hq1:w1.cell? ⟨wr.heap.size,2,none⟩=some (.bool true):=(hb1.cell (p:=⟨wr.heap.size,2,none⟩) (by simp)).trans (World.cell?_alloc_mark wr _ _ _ 2)))|(at_builtin;go_loud (refine wpList_append_own _ rfl (.tmp 43) (.tmp 46) 204 rfl (w.heap.size+1) 210 i0 .nilIface 1 16 Tryz.underlying204 hif hza hzb hzc rfl (by decide) _ _ _ rfl (World.ownsRow.alloc (World.ownsRow.alloc (jl (World.ownsRow.alloc hown _) hb1) _) _) ⟨w1.heap.size+1,0,none⟩ 1 1 [.iface 247 (.agg #[])] rfl rfl ?c1 ?c2 ?c3 ?c4 ?c5 ?_))|go_in)
     case c1=>
      intro j u hj
      match j,hj with
      |0,hj=>simp at hj;subst hj;simp[Addr.add]
     case c2=>intro u hu;simp at hu;subst hu;rfl
     case c3=>unfold maxLen;omega
     case c4=>omega
     case c5=>simp;omega
     intro v' w2 hown2 hgrow2 _
     rw[<-X1.out,<-zfv]at hown2
     have hB2:Below (w.heap.size+1) _ w2:=Below.grown (Below.alloc (Below.alloc (Below.trans (Below.alloc hbw (by omega) _) (hb1.mono (by simp;omega))) (by omega) _) (by simp;omega) _) hgrow2 (by simp;omega) (fun q hq=>(hown.lt q hq).1)
     clear hgrow2 hown hq1 hb1
     go_wp2
     go_roundw
     case rel=>exact⟨k+1,by omega,by go_num,Z2,hown2,hB2⟩
     case measure=>simp[intOf];omega
   ·have hp2:(zj t r s c (g.fi k 0) (g.fi k 1) (g.fb k 2) !=0)=true:=by simpa using hp
    have HE:Hid (pe=zj t r s c (g.fi k 0) (g.fi k 1) (g.fb k 2)):=HN.out.trans ((zmO (by rw[Z1.out];exact hp) (by omega)).trans Z1.out)
    have HP:=Lib.hid hp
    clear hp Z1 HX
    generalize g.fi k 0=f0 at*
    generalize g.fi k 1=f1 at*
    generalize g.fb k 2=f2 at*
    go_wp2_with (go_at_call 119;((with_reducible refine(mz _ _ _ _ _ _ _ _).mono ?_);rintro e w1 ⟨rfl,hb1⟩;have hz1:=hb1.size;simp only[World.size_alloc]at hz1))
    refine bodyPost_ret (v:= .tuple #[.slice none 0 0,qp (zj t r s c f0 f1 f2)]) ?_ rfl ⟨.inr ⟨?_,?_⟩,?_⟩
    ·simp[results,Tryz.results115,go_sem]
    ·rw[HE.out];exact HP.out
    ·rw[HE.out]
    ·(exact gW)
  ·have hkn:k=n:=by omega
   subst hkn
   clear HW HX
   go_wp2
   refine bodyPost_ret (v:= .tuple #[u7,.nilIface]) ?_ rfl ⟨.inl ⟨?_,?_⟩,?_⟩
   ·simp[results,Tryz.results115,go_sem]
   ·exact HN.out.trans hz.out
   ·exact⟨u7,rfl,yC hown (by omega)⟩
   ·exact hw0
end Go.Proofs.YtoakpnoajmngmaaGreatDoor.Sx
namespace Go.Proofs.YtoakpnoajmngmaaGreatDoor.Sx
open Go.RowKit
def zaI (t:Int) (n:Nat) (x:Nat->Int) (o:Nat->Bool):Prop:=∀i,i<n-> -t<=x i/\x i<=t/\(o i=true->x i=0)
def qg (f:Nat->Int):Nat->Int
 |0=>0
 |k+1=>qg f k+f k
def Wj (o:Nat->Bool):Nat->Int
 |0=>0
 |k+1=>Wj o k+(if o k=true then 0 else 1)
theorem yD {f h:Nat->Int}:∀n,(∀i,i<n->f i<=h i)->qg f n<=qg h n
 |0,_=>Int.le_refl _
 |k+1,H=>by
  have h1:=yD k (fun i hi=>H i (by omega))
  have h2:=H k (by omega)
  simp only[qg]
  omega
theorem vG {f h:Nat->Int}:∀n,(∀i,i<n->f i=h i)->qg f n=qg h n
 |0,_=>rfl
 |k+1,H=>by
  have h1:=vG k (fun i hi=>H i (by omega))
  have h2:=H k (by omega)
  simp only[qg]
  omega
structure TsFr (t r S:Int) (n:Nat) (x:Nat->Int) (o:Nat->Bool) (y:Nat->Int):Prop where
 sum:qg y n=min (max S (qg (fun i=>ptk t r (x i) (o i) (-t)) n)) (qg (fun i=>ptk t r (x i) (o i) t) n)
 lev:∃L,-t<=L/\L<=t/\(∀i,i<n->ptk t r (x i) (o i) L<=y i/\y i<=ptk t r (x i) (o i) (L+1))/\(L=t\/qg y n<qg (fun i=>ptk t r (x i) (o i) (L+1)) n)/\qg (fun i=>ptk t r (x i) (o i) L) n<=qg y n
def zaJ (n:Nat) (x:Nat->Int) (o:Nat->Bool) (d:Int):Prop:=∀i k,i<n->k<n->o i=false->o k=false->x i-x k<=d
def vH (t S:Int) (o:Nat->Bool) (n:Nat):Int:=min (max S (-(Wj o n*t))) (Wj o n*t)
def VL (t r S K a:Int) (n:Nat) (x:Nat->Int) (o:Nat->Bool):Prop:=
 (qg x n<vH t S o n/\∀i,i<n->o i=false->min t (a-t)<=x i)\/
 (vH t S o n<qg x n/\∀i,i<n->o i=false->x i<=max (-t) (t-a))\/
 (qg x n=vH t S o n/\zaJ n x o (max 1 (2*t-(a-K))))
theorem jw (o:Nat->Bool) (c:Int):∀n,qg (fun i=>if o i=true then 0 else c) n=Wj o n*c
 |0=>by simp[qg,Wj]
 |k+1=>by
  have:=jw o c k
  simp only[qg,Wj,this]
  split
  ·simp
  ·rw[Int.add_mul];simp
theorem vg {t:Int} {n:Nat} {x:Nat->Int} {o:Nat->Bool} (hs:zaI t n x o):qg x n<=Wj o n*t/\ -(Wj o n*t)<=qg x n:=by
 constructor
 ·rw[<-jw]
  exact yD n fun i hi=>by
   have:=hs i hi
   show x i<=if o i=true then 0 else t
   split
   ·have:=this.2.2 (by assumption);omega
   ·omega
 ·have e: -(Wj o n*t)=Wj o n* -t:=by rw[Int.mul_neg]
  rw[e,<-jw]
  exact yD n fun i hi=>by
   have:=hs i hi
   show(if o i=true then 0 else -t)<=x i
   split
   ·have:=this.2.2 (by assumption);omega
   ·omega
theorem YJ {t:Int} {n:Nat} {x:Nat->Int} {o:Nat->Bool} (hs:zaI t n x o) (h:∀i,i<n->o i=false->t<=x i):qg x n=Wj o n*t:=by
 refine Int.le_antisymm (vg hs).1 ?_
 rw[<-jw]
 exact yD n fun i hi=>by
  show(if o i=true then 0 else t)<=x i
  cases ho:o i
  ·simpa using h i hi ho
  ·simp[(hs i hi).2.2 ho]
theorem VM {t:Int} {n:Nat} {x:Nat->Int} {o:Nat->Bool} (hs:zaI t n x o) (h:∀i,i<n->o i=false->x i<= -t):qg x n= -(Wj o n*t):=by
 refine Int.le_antisymm ?_ (vg hs).2
 rw[<-Int.mul_neg,<-jw]
 exact yD n fun i hi=>by
  show x i<=(if o i=true then 0 else -t)
  cases ho:o i
  ·simpa using h i hi ho
  ·simp[(hs i hi).2.2 ho]
theorem VL.start {t r S K:Int} {n:Nat} {x:Nat->Int} {o:Nat->Bool} (hs:zaI t n x o) (hK:0<=K) (h0:0<=t):VL t r S K 0 n x o:=by
 unfold VL
 have:qg x n<vH t S o n\/vH t S o n<qg x n\/qg x n=vH t S o n:=by omega
 rcases this with h|h|h
 ·exact .inl ⟨h,fun i hi _=>by have:=hs i hi;omega⟩
 ·exact .inr (.inl ⟨h,fun i hi _=>by have:=hs i hi;omega⟩)
 ·exact .inr (.inr ⟨h,fun i k hi hk _ _=>by have:=hs i hi;have:=hs k hk;omega⟩)
theorem VL.done {t r S K a:Int} {n:Nat} {x:Nat->Int} {o:Nat->Bool} (h:VL t r S K a n x o) (hs:zaI t n x o) (ha:2*t+K<=a) (hK:0<=K):qg x n=vH t S o n/\zaJ n x o 1:=by
 unfold VL at h
 unfold vH at*
 have htt:=vg hs
 rcases h with⟨h1,h2⟩|⟨h1,h2⟩|⟨h1,h2⟩
 ·have:=YJ hs (fun i hi ho=>by have:=h2 i hi ho;omega)
  omega
 ·have:=VM hs (fun i hi ho=>by have:=h2 i hi ho;omega)
  omega
 ·exact⟨h1,fun i k hi hk oi ok=>by have:=h2 i k hi hk oi ok;omega⟩
theorem TsFr.congr {t r S:Int} {n:Nat} {x x' y:Nat->Int} {o o':Nat->Bool} (h:TsFr t r S n x o y) (hx:∀i,i<n->x i=x' i) (ho:∀i,i<n->o i=o' i):TsFr t r S n x' o' y:=by
 obtain⟨h1,L,h2,h3,h4,h5,h6⟩:=h
 have hc:∀l,qg (fun i=>ptk t r (x i) (o i) l) n=qg (fun i=>ptk t r (x' i) (o' i) l) n:=fun l=>vG n fun i hi=>by
  show ptk t r (x i) (o i) l=ptk t r (x' i) (o' i) l
  rw[hx i hi,ho i hi]
 refine⟨by rw[<-hc,<-hc];exact h1,L,h2,h3,fun i hi=>by rw[<-hx i hi,<-ho i hi];exact h4 i hi,?_,?_⟩
 ·rw[<-hc];exact h5
 ·rw[<-hc];exact h6
end Go.Proofs.YtoakpnoajmngmaaGreatDoor.Sx
