import Derived.Test.YtoakpnoajmngmaaGreatDoorSlots
import Derived.Test.YtoakpnoajmngmaaGreatDoorLineK
import Derived.Test.YtoakpnoajmngmaaGreatDoorVote3
import Derived.Test.YtoakpnoajmngmaaGreatDoorWgPl
import Derived.Test.YtoakpnoajmngmaaGreatDoorServos
import Derived.Test.YtoakpnoajmngmaaGreatDoorGuard
import Derived.Test.YtoakpnoajmngmaaGreatDoorLineA
import Derived.Test.YtoakpnoajmngmaaGreatDoorTopSharePl
import Derived.Test.YtoakpnoajmngmaaGreatDoorShareT
import Derived.Test.YtoakpnoajmngmaaGreatDoorProg
import Derived.Test.YtoakpnoajmngmaaGreatDoorSxMemo
import Derived.Test.YtoakpnoajmngmaaGreatDoorFrame
import Derived.Test.YtoakpnoajmngmaaGreatDoorVote
import Derived.Deep.DeepCutAuto
set_option linter.unusedVariables false
set_option linter.unusedSimpArgs false
namespace Go.Proofs.YtoakpnoajmngmaaGreatDoor.Sx
open Go.RowKit
def jr (lk aim is:Int):Int:=ziy lk (zm (aim-zm is (-2000000) 2000000) (-1000000) 1000000)
theorem qQ (x:Int) {lo hi:Int} (h:lo<=hi):lo<=zm x lo hi/\zm x lo hi<=hi:=by
 unfold zm
 (repeat' split)<;>omega
set_option maxRecDepth 100000 in
set_option maxHeartbeats 1000000 in
theorem zaV (g d:GD) (hk:g.ks=[true]) (hk':d.ks=[true]) (hn:g.n<=1000) (hn':d.n<=1000) (x:Int) (hx:B64 x) (hpl:zC g.f g.n d.f d.n=0) (w:World) (o:g.ok w) (o':d.ok w):
  Calls Tryz.prog 146 #[.agg #[.slice g.A g.n g.c,.slice d.A d.n d.c],.int .i64 x] w fun e w'=>e= .returned (.tuple #[.int .i64 (qa g.f d.f g.n x),.nilIface])/\Below w.heap.size w w':=by
 have HC:Hid (∀w1,Below w.heap.size w w1->Calls Tryz.prog 152 #[.agg #[.slice g.A g.n g.c,.slice d.A d.n d.c]] w1 fun e w'=>e= .returned .nilIface/\Below w1.heap.size w1 w'):=fun w1 hb=>(Zn g d hk hk' hn hn' w1 (qE o hb) (qE o' hb)).mono fun e w' h=>by rw[hpl]at h;exact h
 have HL:Hid (∀w1,Below w.heap.size w w1->Calls Tryz.prog 163 #[.agg #[.slice g.A g.n g.c,.slice d.A d.n d.c],.int .i64 x] w1 fun e w'=>e= .returned (.int .i64 (qa g.f d.f g.n x))/\Below w1.heap.size w1 w'):=fun w1 hb=>Zp g d hk hk' hn hn' x hx hpl w1 (qE o hb) (qE o' hb)
 clear o o' hpl hk hk'
 generalize qa g.f d.f g.n x=lk at*
 generalize g.A=gA at*
 generalize g.n=gn at*
 generalize g.c=gc at*
 generalize d.A=dA at*
 generalize d.n=dn at*
 generalize d.c=dc at*
 go_enter Tryz.func146,Tryz.ntmps146
 go_wp2_with (first|(go_at_call 152;((with_reducible refine(HC.out _ (gW)).mono ?_);rintro e w5 ⟨rfl,hb5⟩;have hz5:=hb5.size;simp only[World.size_alloc]at hz5;have q0:=(hb5.cell (p:=⟨w.heap.size,0,none⟩) (by simp)).trans (World.cell?_alloc_mark w _ _ _ 0);have q1:=(hb5.cell (p:=⟨w.heap.size,1,none⟩) (by simp)).trans (World.cell?_alloc_mark w _ _ _ 1)))|(go_at_call 163;((with_reducible refine(HL.out _ (gW)).mono ?_);rintro e w6 ⟨rfl,hb6⟩;have hz6:=hb6.size))|fail)
 refine bodyPost_ret (v:= .tuple #[.int .i64 lk,.nilIface]) ?_ rfl ⟨rfl,gW⟩
 simp[results,Tryz.results146,go_sem]
set_option maxRecDepth 100000 in
set_option maxHeartbeats 1000000 in
theorem zaW (lk aim st is sp al pr:Int) (w:World) (ha: -1000000<=aim/\aim<=1000000):
  Calls Tryz.prog 100 #[.int .i64 lk,.int .i64 aim,.agg #[.int .i64 st,.int .i64 is,.int .i64 sp,.int .i64 al,.int .i64 pr]] w fun e w'=>e= .returned (.int .i64 (jr lk aim is))/\Below w.heap.size w w':=by
 have h1:=qQ is (show(-2000000:Int)<=2000000 by omega)
 obtain⟨c,hc⟩:∃c,zm is (-2000000) 2000000=c:=⟨_,rfl⟩
 obtain⟨v,hv⟩:∃v,zm (aim-c) (-1000000) 1000000=v:=⟨_,rfl⟩
 have e:jr lk aim is=ziy lk v:=by unfold jr;rw[hc,hv]
 rw[e]
 rw[hc]at h1
 have hw:IntKind.wrap .i64 (aim-c)=aim-c:=IntWalk.i64_in _ ⟨by omega,by omega⟩
 have H1:Hid (∀w,Calls Tryz.prog 65 #[.int .i64 is,.int .i64 (-2000000),.int .i64 2000000] w fun e w'=>e= .returned (.int .i64 c)/\w=w'):=fun w=>jq _ _ _ _ w (by omega) (fun _=>hc)
 have H2:Hid (∀w,Calls Tryz.prog 65 #[.int .i64 (aim-c),.int .i64 (-1000000),.int .i64 1000000] w fun e w'=>e= .returned (.int .i64 v)/\w=w'):=fun w=>jq _ _ _ _ w (by omega) (fun _=>hv)
 clear e hc hv
 go_enter Tryz.func100,Tryz.ntmps100
 go_wp2_with (first|(go_at_call 65;((with_reducible refine(H1.out _).mono ?_);rintro e w5 ⟨rfl,rfl⟩))|(go_at_call 65;((with_reducible refine(H2.out _).mono ?_);rintro e w5 ⟨rfl,rfl⟩))|(go_at_call 133;((with_reducible refine(ziU lk v _).mono ?_);rintro e w6 ⟨rfl,rfl⟩))|fail)
 go_ret
 exact⟨rfl,gW⟩
end Go.Proofs.YtoakpnoajmngmaaGreatDoor.Sx
namespace Go.Proofs.YtoakpnoajmngmaaGreatDoor.Sx
open Go.RowKit
set_option maxRecDepth 100000 in
set_option maxHeartbeats 1000000 in
theorem GO (g d:GD) (hk:g.ks=[true]) (hk':d.ks=[true]) (hn:g.n<=1000) (hn':d.n<=1000) (lo hi tu bu mo aim st is sp al pr:Int) (bsp:B64 sp) (ha: -1000000<=aim/\aim<=1000000) (hpl:zC g.f g.n d.f d.n=0) (w:World) (o:g.ok w) (o':d.ok w):
  Calls Tryz.prog 113 #[.agg #[.int .i64 lo,.int .i64 hi,.int .i64 tu,.int .i64 bu,.int .i64 mo,.slice g.A g.n g.c,.slice d.A d.n d.c],.int .i64 aim,.agg #[.int .i64 st,.int .i64 is,.int .i64 sp,.int .i64 al,.int .i64 pr]] w fun e w'=>e= .returned (.int .i64 (jr (qa g.f d.f g.n sp) aim is))/\Below w.heap.size w w':=by
 have HT:Hid (∀w1,Below w.heap.size w w1->Calls Tryz.prog 146 #[.agg #[.slice g.A g.n g.c,.slice d.A d.n d.c],.int .i64 sp] w1 fun e w'=>e= .returned (.tuple #[.int .i64 (qa g.f d.f g.n sp),.nilIface])/\Below w1.heap.size w1 w'):=fun w1 hb=>zaV g d hk hk' hn hn' sp bsp hpl w1 (qE o hb) (qE o' hb)
 clear o o' hpl hk hk'
 generalize qa g.f d.f g.n sp=lk at*
 generalize g.A=gA at*
 generalize g.n=gn at*
 generalize g.c=gc at*
 generalize d.A=dA at*
 generalize d.n=dn at*
 generalize d.c=dc at*
 have h1:=qQ is (show(-2000000:Int)<=2000000 by omega)
 obtain⟨c,hc⟩:∃c,zm is (-2000000) 2000000=c:=⟨_,rfl⟩
 obtain⟨v,hv⟩:∃v,zm (aim-c) (-1000000) 1000000=v:=⟨_,rfl⟩
 have e:jr lk aim is=ziy lk v:=by unfold jr;rw[hc,hv]
 rw[e]
 rw[hc]at h1
 have hw:IntKind.wrap .i64 (aim-c)=aim-c:=IntWalk.i64_in _ ⟨by omega,by omega⟩
 have H1:Hid (∀w,Calls Tryz.prog 80 #[.int .i64 is,.int .i64 (-2000000),.int .i64 2000000] w fun e w'=>e= .returned (.int .i64 c)/\w=w'):=fun w=>jP _ _ _ _ w (fun _=>hc)
 have H2:Hid (∀w,Calls Tryz.prog 80 #[.int .i64 (aim-c),.int .i64 (-1000000),.int .i64 1000000] w fun e w'=>e= .returned (.int .i64 v)/\w=w'):=fun w=>jP _ _ _ _ w (fun _=>hv)
 clear e hc hv
 go_enter Tryz.func113,Tryz.ntmps113
 go_wp2_with (first|(go_at_call 146;((with_reducible refine(HT.out _ (gW)).mono ?_);rintro e w4 ⟨rfl,hb4⟩;have hz4:=hb4.size;simp only[World.size_alloc]at hz4;have q1:w4.cell? ⟨w.heap.size+1,1,none⟩=some (.int .i64 is):=(hb4.cell (p:=⟨w.heap.size+1,1,none⟩) (by simp)).trans (by simp[go_sem])))|(go_at_call 80;((with_reducible refine(H1.out _).mono ?_);rintro e w5 ⟨rfl,rfl⟩))|(go_at_call 80;((with_reducible refine(H2.out _).mono ?_);rintro e w5 ⟨rfl,rfl⟩))|(go_at_call 147;((with_reducible refine(ziT lk v _).mono ?_);rintro e w6 ⟨rfl,rfl⟩))|fail)
 go_ret
 exact⟨rfl,gW⟩
end Go.Proofs.YtoakpnoajmngmaaGreatDoor.Sx
namespace Go.Proofs.YtoakpnoajmngmaaGreatDoor.Sx
open Go.RowKit
def vl (lo hi tu mo lk aim held law st is al pr:Int):Int × Int × Int:=
 if al=2 then((st*mo).tdiv 100,aim,held)else if al=3 then(0,aim,held)else
  (zm (jr lk (zm ((if al=law then aim else zm is lo hi)+(st*tu).tdiv 100) lo hi) is+(if al=law then held else zm (pr-jr lk (zm ((if al=law then aim else zm is lo hi)+(st*tu).tdiv 100) lo hi) is) (-mo) mo)) (-mo) mo,
   zm ((if al=law then aim else zm is lo hi)+(st*tu).tdiv 100) lo hi,
   if al=law then held else zm (pr-jr lk (zm ((if al=law then aim else zm is lo hi)+(st*tu).tdiv 100) lo hi) is) (-mo) mo)
theorem zr {lo hi tu bu mo pl:Int} {ga:Bool} (h:zK lo hi tu bu mo pl ga=0):(-100000<=lo/\hi<=100000/\lo<=hi)/\(0<=tu/\tu<=1000)/\(0<=bu/\bu<=65536)/\(1<=mo/\mo<=4000)/\pl=0:=by
 unfold zK at h
 (repeat' split at h)<;>first|omega|skip
theorem GP (lk aim is:Int): -2147483647<=jr lk aim is/\jr lk aim is<=2147483647:=⟨Wu _,Wv _⟩
theorem zij {s m:Int} (hs: -100<=s/\s<=100) (hm:0<=m/\m<=4000):(-400000<=s*m/\s*m<=400000)/\ -4000<=(s*m).tdiv 100/\(s*m).tdiv 100<=4000:=by
 have h1:=Int.mul_le_mul_of_nonneg_right hs.2 hm.1
 have h2:=Int.mul_le_mul_of_nonneg_right hs.1 hm.1
 have b1: -400000<=s*m/\s*m<=400000:=by omega
 exact⟨b1,zdl (B:=4000) (by omega) (by omega)⟩
end Go.Proofs.YtoakpnoajmngmaaGreatDoor.Sx
namespace Go.Proofs.YtoakpnoajmngmaaGreatDoor.Sx
open Go.RowKit
def hmF (lo hi tu bu mo aim held law st is sp al pr:Int):Nat->Int:=fun n=>match n with
 |20=>lo|21=>hi|22=>tu|23=>bu|24=>mo|25=>aim|26=>held|27=>law|28=>st|29=>is|30=>sp|31=>al|32=>pr|_=>0
abbrev AkJ (g d:GD) (lo hi tu bu mo aim held law st is sp al pr c:Int) (ρ:Env):Prop:=Jm (fun _ _ _=>c) (fun _ _ _=>false) (jc g d) (fun n=>if n=100 then(g.n:Int)else if n=101 then(d.n:Int)else hmF lo hi tu bu mo aim held law st is sp al pr n) (fun _=>false) ρ
abbrev HmJ (g d:GD) (lo hi tu bu mo aim held law:Int) (ρ:Env):Prop:=AkJ g d lo hi tu bu mo aim held law 0 0 0 0 0 0 ρ
section
variable {g d:GD} {lo hi tu bu mo aim held law st is sp al pr c:Int} {ρ:Env}
theorem Q8 {w:World} (J:AkJ g d lo hi tu bu mo aim held law st is sp al pr c ρ) (k:g.ks=[true]) (k':d.ks=[true]) (n:g.n<=20) (n':d.n<=20) (hph:zK lo hi tu bu mo (zC g.f g.n d.f d.n) (zX d.f d.n)=0) (o:g.ok w) (o':d.ok w) (N:Nat->Prop) (b:Bd):yn.ok ρ N/\yn.den ρ b= .agg #[.int .i64 lo,.int .i64 hi,.int .i64 tu,.int .i64 bu,.int .i64 mo,.slice g.A g.n g.c,.slice d.A d.n d.c]:=by
 have v20:(E.v 20).i ρ=lo:=J.at_ 20 rfl
 have v21:(E.v 21).i ρ=hi:=J.at_ 21 rfl
 have v22:(E.v 22).i ρ=tu:=J.at_ 22 rfl
 have v23:(E.v 23).i ρ=bu:=J.at_ 23 rfl
 have v24:(E.v 24).i ρ=mo:=J.at_ 24 rfl
 obtain⟨⟨r1,r2,r3⟩,r4,r5,r6,hpl⟩:=zr hph
 obtain⟨p1,p2⟩:=J.std.osl (zx o o') (k:=0) (sh:=[.int .i64 (-9223372036854775808) 9223372036854775807]) (by show(jc g d 0).ks.map vN=_;rw[show jc g d 0=g from rfl,k];rfl) (by show(jc g d 0).ks.length<=100;rw[show jc g d 0=g from rfl,k];decide) (e:= .v 100) (lo:=0) (hi:=20) (J.at_ 100 rfl) (Int.le_refl _) (Int.natCast_nonneg _) (by show(g.n:Int)<=20;omega) N b
 obtain⟨p3,p4⟩:=J.std.osl (zx o o') (k:=1) (sh:=[.int .i64 (-9223372036854775808) 9223372036854775807]) (by show(jc g d 1).ks.map vN=_;rw[show jc g d 1=d from rfl,k'];rfl) (by show(jc g d 1).ks.length<=100;rw[show jc g d 1=d from rfl,k'];decide) (e:= .v 101) (lo:=0) (hi:=20) (J.at_ 101 rfl) (Int.le_refl _) (Int.natCast_nonneg _) (by show(d.n:Int)<=20;omega) N b
 refine⟨?_,?_⟩
 ·simp only[yn,vi,SV.okL,SV.ok,R.ok,v20,v21,v22,v23,v24,and_true]
  refine⟨?_,?_,?_,?_,?_,p1,p3⟩<;>omega
 ·rw[show yn.den ρ b= .agg #[.int .i64 ((E.v 20).i ρ),.int .i64 ((E.v 21).i ρ),.int .i64 ((E.v 22).i ρ),.int .i64 ((E.v 23).i ρ),.int .i64 ((E.v 24).i ρ),(qS 0 100).den ρ b,(qS 1 101).den ρ b]from by simp only[yn,vi,SV.denL,zA,zh]]
  rw[show(qS 0 100).den ρ b= .slice g.A g.n g.c from p2,show(qS 1 101).den ρ b= .slice d.A d.n d.c from p4,v20,v21,v22,v23,v24]
def Q9 (lo hi mo aim held law:Int):Prop:=lo<=aim/\aim<=hi/\ -mo<=held/\held<=mo/\0<=law/\law<=3
instance (lo hi mo aim held law:Int):Decidable (Q9 lo hi mo aim held law):=by unfold Q9;infer_instance
def Ja (mo st al pr:Int):Prop:= -100<=st/\st<=100/\0<=al/\al<=3/\ -mo<=pr/\pr<=mo
instance (mo st al pr:Int):Decidable (Ja mo st al pr):=by unfold Ja;infer_instance
structure AkB (aim held law st is sp al pr:Int):Prop where
 a:B64 aim
 h:B64 held
 l:B64 law
 s:B64 st
 i:B64 is
 p:B64 sp
 al:B64 al
 pr:B64 pr
theorem YU {w:World} (J:AkJ g d lo hi tu bu mo aim held law st is sp al pr c ρ) (k:g.ks=[true]) (k':d.ks=[true]) (n:g.n<=20) (n':d.n<=20) (B:AkB aim held law st is sp al pr) (hph:zK lo hi tu bu mo (zC g.f g.n d.f d.n) (zX d.f d.n)=0) (o:g.ok w) (o':d.ok w) (N:Nat->Prop) (b:Bd):SV.okL ρ N Zl/\(SV.denL ρ b Zl).toArray=#[.agg #[.int .i64 lo,.int .i64 hi,.int .i64 tu,.int .i64 bu,.int .i64 mo,.slice g.A g.n g.c,.slice d.A d.n d.c],.agg #[.int .i64 aim,.int .i64 held,.int .i64 law],.agg #[.int .i64 st,.int .i64 is,.int .i64 sp,.int .i64 al,.int .i64 pr]]:=by
 obtain⟨q1,q2⟩:=Q8 J k k' n n' hph o o' N b
 have v25:(E.v 25).i ρ=aim:=J.at_ 25 rfl
 have v26:(E.v 26).i ρ=held:=J.at_ 26 rfl
 have v27:(E.v 27).i ρ=law:=J.at_ 27 rfl
 have v28:(E.v 28).i ρ=st:=J.at_ 28 rfl
 have v29:(E.v 29).i ρ=is:=J.at_ 29 rfl
 have v30:(E.v 30).i ρ=sp:=J.at_ 30 rfl
 have v31:(E.v 31).i ρ=al:=J.at_ 31 rfl
 have v32:(E.v 32).i ρ=pr:=J.at_ 32 rfl
 refine⟨⟨q1,?_,?_,trivial⟩,?_⟩
 ·simp only[zy,SV.okL,SV.ok,R.ok,and_true,v25,v26,v27]
  exact⟨B.a,B.h,B.l⟩
 ·simp only[zy,SV.okL,SV.ok,R.ok,and_true,v28,v29,v30,v31,v32]
  exact⟨B.s,B.i,B.p,B.al,B.pr⟩
 ·simp only[Zl,SV.denL,q2,zA,zy,zh,v25,v26,v27,v28,v29,v30,v31,v32]
end
theorem mF (g d:GD) (k:g.ks=[true]) (k':d.ks=[true]) (n:g.n<=20) (n':d.n<=20) (lo hi tu bu mo aim held law st is sp al pr:Int) (B:AkB aim held law st is sp al pr) (w:World) (o:g.ok w) (o':d.ok w)
  (hph:zK lo hi tu bu mo (zC g.f g.n d.f d.n) (zX d.f d.n)=0):
  Calls Tryz.prog 112 #[.agg #[.int .i64 lo,.int .i64 hi,.int .i64 tu,.int .i64 bu,.int .i64 mo,.slice g.A g.n g.c,.slice d.A d.n d.c],.agg #[.int .i64 aim,.int .i64 held,.int .i64 law],.agg #[.int .i64 st,.int .i64 is,.int .i64 sp,.int .i64 al,.int .i64 pr]] w fun e w'=>e= .returned (qp (if Q9 lo hi mo aim held law then if Ja mo st al pr then 0 else 1 else 3))/\Below w.heap.size w w':=by
 obtain⟨ρ0,J0⟩:∃ρ,AkJ g d lo hi tu bu mo aim held law st is sp al pr 0 ρ:=Jm.start _ _ _ _ _
 obtain⟨ρ,hs,hy,key⟩:=Qg zlg zgI ρ0
 have J:=J0.same hs
 have hsum:HOK Tryz.prog ρ zld:=by
  refine zc (zo fun args gs v hp hg b base w1 N hok hm hbase=>?_) (zP _ _)
  unfold XL at hp
  split at hp
  ·rename_i hsm
   cases hp
   have:=SV.sameL_eq _ _ hsm
   subst this
   obtain⟨q1,q2⟩:=Q8 J k k' n n' hph o o' N b
   obtain⟨⟨r1,r2,r3⟩,r4,r5,r6,hpl⟩:=zr hph
   rw[show(SV.denL ρ b [yn]).toArray=#[.agg #[.int .i64 lo,.int .i64 hi,.int .i64 tu,.int .i64 bu,.int .i64 mo,.slice g.A g.n g.c,.slice d.A d.n d.c]]from by simp only[SV.denL,q2]]
   refine(JN g d k k' (by omega) (by omega) lo hi tu bu mo (by unfold B64;omega) (by unfold B64;omega) (by unfold B64;omega) (by unfold B64;omega) (by unfold B64;omega) w1 (J.std.row (zx o o') hm hbase 0) (J.std.row (zx o o') hm hbase 1)).mono ?_
   rintro e w' ⟨y1,y2⟩
   exact⟨by rw[y1,hph];rfl,trivial,y2⟩
  ·cases hp
 obtain⟨q1,q2⟩:=YU J k k' n n' B hph o o' (· <0) ⟨fun _=>0,fun _=>0,fun _=>0⟩
 have h:=key J.std.et hsum ⟨fun _=>0,fun _=>0,fun _=>0⟩ w q1 (J.mem (zx o o'))
 rw[q2]at h
 refine h.mono ?_
 rintro e w' ⟨⟨b',y1⟩,y2⟩
 refine⟨?_,y2⟩
 rw[zgJ]at hy
 obtain⟨z1,z2,_⟩:=hy
 rw[show ρ.iv 20=lo from J.at_ 20 rfl,show ρ.iv 21=hi from J.at_ 21 rfl,show ρ.iv 24=mo from J.at_ 24 rfl,show ρ.iv 25=aim from J.at_ 25 rfl,show ρ.iv 26=held from J.at_ 26 rfl,show ρ.iv 27=law from J.at_ 27 rfl]at z1
 rw[show ρ.iv 24=mo from J.at_ 24 rfl,show ρ.iv 28=st from J.at_ 28 rfl,show ρ.iv 31=al from J.at_ 31 rfl,show ρ.iv 32=pr from J.at_ 32 rfl]at z2
 rw[y1,show akR.den ρ b'=qp (akE.i ρ)from k8 ρ J.std.et _ b',zqr,z1,z2]
 congr 2
 by_cases h1:Q9 lo hi mo aim held law
 ·have h1':=h1
  unfold Q9 at h1'
  rw[if_pos h1,if_neg (by simp only[Bool.or_eq_true,Bool.not_eq_true',Bool.and_eq_false_iff,decide_eq_true_eq,decide_eq_false_iff_not];omega)]
  by_cases h2:Ja mo st al pr
  ·have h2':=h2
   unfold Ja at h2'
   rw[if_pos h2,if_neg (by simp only[Bool.or_eq_true,decide_eq_true_eq];omega)]
  ·have h2':=h2
   unfold Ja at h2'
   rw[if_neg h2,if_pos (by simp only[Bool.or_eq_true,decide_eq_true_eq];omega)]
 ·have h1':=h1
  unfold Q9 at h1'
  rw[if_neg h1,if_pos (by simp only[Bool.or_eq_true,Bool.not_eq_true',Bool.and_eq_false_iff,decide_eq_true_eq,decide_eq_false_iff_not];omega)]
theorem mH (g d:GD) (k:g.ks=[true]) (k':d.ks=[true]) (n:g.n<=20) (n':d.n<=20) (lo hi tu bu mo aim held law st is sp al pr:Int) (B:AkB aim held law st is sp al pr) (w:World) (o:g.ok w) (o':d.ok w)
  (hph:zK lo hi tu bu mo (zC g.f g.n d.f d.n) (zX d.f d.n)=0) (h1:Q9 lo hi mo aim held law) (h2:Ja mo st al pr):Calls Tryz.prog 112 #[.agg #[.int .i64 lo,.int .i64 hi,.int .i64 tu,.int .i64 bu,.int .i64 mo,.slice g.A g.n g.c,.slice d.A d.n d.c],.agg #[.int .i64 aim,.int .i64 held,.int .i64 law],.agg #[.int .i64 st,.int .i64 is,.int .i64 sp,.int .i64 al,.int .i64 pr]] w fun e w'=>e= .returned .nilIface/\Below w.heap.size w w':=
 (mF g d k k' n n' lo hi tu bu mo aim held law st is sp al pr B w o o' hph).mono fun e w' h=>by rw[if_pos h1,if_pos h2]at h;exact h
theorem VV (g d:GD) (k:g.ks=[true]) (k':d.ks=[true]) (n:g.n<=20) (n':d.n<=20) (lo hi tu bu mo aim held law st is sp al pr:Int) (B:AkB aim held law st is sp al pr) (w:World) (o:g.ok w) (o':d.ok w)
  (hph:zK lo hi tu bu mo (zC g.f g.n d.f d.n) (zX d.f d.n)=0) (hbad:¬Q9 lo hi mo aim held law):
  Calls Tryz.prog 82 #[.agg #[.int .i64 lo,.int .i64 hi,.int .i64 tu,.int .i64 bu,.int .i64 mo,.slice g.A g.n g.c,.slice d.A d.n d.c],.agg #[.int .i64 aim,.int .i64 held,.int .i64 law],.agg #[.int .i64 st,.int .i64 is,.int .i64 sp,.int .i64 al,.int .i64 pr]] w fun e w'=>e= .returned (.tuple #[.int .i64 0,.agg #[.int .i64 0,.int .i64 0,.int .i64 0],.iface 44 (.int .i64 3)])/\Below w.heap.size w w':=by
 obtain⟨ρ0,J0⟩:∃ρ,AkJ g d lo hi tu bu mo aim held law st is sp al pr 3 ρ:=Jm.start _ _ _ _ _
 obtain⟨ρ,hs,hy,key⟩:=Qg zlh zgK ρ0
 have J:=J0.same hs
 have hk:(kE 1).i ρ=3:=J.std.f (id:=1) rfl []
 have hsum:HOK Tryz.prog ρ zlf:=by
  refine zc (zo fun args gs v hp hg b base w1 N hok hm hbase=>?_) (zP _ _)
  unfold zle at hp
  split at hp
  ·rename_i hsm
   cases hp
   have:=SV.sameL_eq _ _ hsm
   subst this
   obtain⟨q1,q2⟩:=YU J k k' n n' B hph o o' N b
   rw[q2]
   refine(mF g d k k' n n' lo hi tu bu mo aim held law st is sp al pr B w1 (J.std.row (zx o o') hm hbase 0) (J.std.row (zx o o') hm hbase 1) hph).mono ?_
   rintro e w' ⟨y1,y2⟩
   refine⟨?_,?_,y2⟩
   ·have e2:(R.e ⟨kE 1,1,5⟩).i ρ=3:=hk
    rw[y1,if_neg hbad,k8 ρ J.std.et _ b,e2]
   ·show 1<=(kE 1).i ρ/\(kE 1).i ρ<=5
    rw[hk]
    omega
  ·cases hp
 obtain⟨q1,q2⟩:=YU J k k' n n' B hph o o' (· <0) ⟨fun _=>0,fun _=>0,fun _=>0⟩
 have h:=key J.std.et hsum ⟨fun _=>0,fun _=>0,fun _=>0⟩ w q1 (J.mem (zx o o'))
 rw[q2]at h
 refine h.mono ?_
 rintro e w' ⟨⟨b',y1⟩,y2⟩
 refine⟨?_,y2⟩
 have he:=k8 ρ J.std.et ⟨kE 1,1,5⟩ b'
 have e2:(R.e ⟨kE 1,1,5⟩).i ρ=3:=hk
 rw[e2]at he
 rw[y1]
 unfold awR
 rw[show(SV.tup [zI,.agg [zI,zI,zI],.err ⟨kE 1,1,5⟩]).den ρ b'= .tuple #[zI.den ρ b',(SV.agg [zI,zI,zI]).den ρ b',(SV.err ⟨kE 1,1,5⟩).den ρ b']from rfl,he]
 rfl
end Go.Proofs.YtoakpnoajmngmaaGreatDoor.Sx
namespace Go.Proofs.YtoakpnoajmngmaaGreatDoor.Sx
open Go.RowKit
def hlf (tk:Nat->Int->Int) (L l0:Int):Nat->Int
 |0=>l0
 |k+1=>if 0<hlf tk L l0 k/\tk k L<tk k (L+1)then hlf tk L l0 k-1 else hlf tk L l0 k
def hou (tk:Nat->Int->Int) (L l0:Int) (k:Nat):Int:=if 0<hlf tk L l0 k/\tk k L<tk k (L+1)then tk k L+1 else tk k L
theorem zfx (tk:Nat->Int->Int) (L l0:Int) (h: -100000<=l0/\l0<=100000):∀k,-100000<=hlf tk L l0 k/\hlf tk L l0 k<=100000
 |0=>h
 |k+1=>by
  have:=zfx tk L l0 h k
  simp only[hlf]
  split<;>omega
def zbq (tk:Nat->Int->Int) (L l0:Int) (k:Nat):List Value:=(List.range k).map fun j=> .int .i64 (hou tk L l0 j)
theorem zaX (tk:Nat->Int->Int) (L l0:Int) (k:Nat):zbq tk L l0 (k+1)=zbq tk L l0 k++[.int .i64 (hou tk L l0 k)]:=by
 unfold zbq
 rw[List.range_succ,List.map_append]
 rfl
theorem YV {w:World} {n0:Nat} {T:TypeId} {v:Value} {n:Nat} {f:Nat->Int} (h:w.ownsRow n0 T 1 v n ((List.range n).map fun k=> .int .i64 (f k))) (hn:0<n):gM T n0 w ((List.range n).map f) v:=by
 obtain⟨_,⟨_,h0⟩|⟨g,cap,cur,h1,h2,h3,h4,_,h5,h6⟩⟩:=h
 ·omega
 refine⟨g,cap,cur,by simp[h1],h2,h3,by omega,by simp;omega,fun i x hi=>?_⟩
 rw[List.getElem?_map]at hi
 by_cases hl:i<n
 ·rw[List.getElem?_range hl]at hi
  cases hi
  have h7:=congrArg (·[i]?) h6
  simp only[List.getElem?_map,List.getElem?_range hl]at h7
  rw[List.getElem?_take_of_lt (by omega)]at h7
  simpa using h7
 ·rw[List.getElem?_eq_none (by simp;omega)]at hi
  cases hi
set_option maxRecDepth 100000 in
set_option maxHeartbeats 1000000 in
theorem YW (bl off n c0:Nat) (t r s c x X:Int) (w:World) (T:Int->Int) (tk:Nat->Int->Int) (f0 f1:Nat->Int) (fo:Nat->Bool) (hbl:bl<w.heap.size)
  (hrow:∀i,i<n->w.cell? ⟨bl,off+i*3,none⟩=some (.int .i64 (f0 i))/\w.cell? ⟨bl,off+i*3+1,none⟩=some (.int .i64 (f1 i))/\w.cell? ⟨bl,off+i*3+2,none⟩=some (.bool (fo i)))
  (t1:1<=t) (t2:t<=1000) (hn:n<=4) (hTb:∀y,-4000<=T y/\T y<=4000) (hkb:∀k,k<n->∀y,-1000<=tk k y/\tk k y<=1000) (hX:zm x (T (-t)) (T t)=X) (hTm:T (-t)<=T t)
  (hT:∀w1 y,Below w.heap.size w w1->B64 y->Calls Tryz.prog 103 #[.agg #[.int .i64 t,.int .i64 r,.int .i64 s,.int .i64 c],.slice (some ⟨bl,off,none⟩) n c0,.int .i64 y] w1 fun e w'=>e= .returned (.int .i64 (T y))/\Below w1.heap.size w1 w')
  (hK:∀k,k<n->∀w1 y,B64 y->Calls Tryz.prog 104 #[.agg #[.int .i64 t,.int .i64 r,.int .i64 s,.int .i64 c],.agg #[.int .i64 (f0 k),.int .i64 (f1 k),.bool (fo k)],.int .i64 y] w1 fun e w'=>e= .returned (.int .i64 (tk k y))/\Below w1.heap.size w1 w'):
  Calls Tryz.prog 69 #[.agg #[.int .i64 t,.int .i64 r,.int .i64 s,.int .i64 c],.slice (some ⟨bl,off,none⟩) n c0,.int .i64 x] w fun e w'=>(∃v L,e= .returned v/\ -t<=L/\L<=t/\(L= -t\/T L<=X)/\(L=t\/X<T (L+1))/\w'.ownsRow w.heap.size 3 1 v n (zbq tk L (X-T L) n))/\Below w.heap.size w w':=by
 have HT:=Lib.hid hT
 have HK:=Lib.hid hK
 have HW:=Lib.hid hrow
 have HB:=Lib.hid hTb
 have HC:=Lib.hid hkb
 have HX:=Lib.hid hX
 have x1: -4000<=X/\X<=4000:=by
  have q1:=hTb (-t)
  have q2:=hTb t
  rw[<-hX]
  exact Gb (by omega) (by omega)
 have hwn:IntKind.wrap .i64 (-t)= -t:=IntWalk.i64_in _ ⟨by omega,by omega⟩
 clear hT hK hrow hTb hkb hX
 obtain⟨i0,hif,hza,hzb,hzc⟩:=info_parts MS
 go_enter Tryz.func69,Tryz.ntmps69
 go_upto_region 1 with fail
 refine zT (fun ω=>Below w.heap.size w ω/\w.heap.size<ω.heap.size/\(∀o,ω.frozen? ⟨w.heap.size,o,none⟩=false)/\ω.cell? ⟨w.heap.size,0,none⟩=some (.int .i64 t)/\ω.cell? ⟨w.heap.size,1,none⟩=some (.int .i64 r)/\ω.cell? ⟨w.heap.size,2,none⟩=some (.int .i64 s)/\ω.cell? ⟨w.heap.size,3,none⟩=some (.int .i64 c)) ⟨gW,gS,gF,gC,gC,gC,gC⟩ ?_
 rintro w2 ⟨hB2,hy2_0,hf2_0,hc2_0_0,hc2_0_1,hc2_0_2,hc2_0_3⟩
 go_region_held3 (fun ω=>ω.cell? ⟨w.heap.size,0,none⟩=some (.int .i64 t)/\ω.cell? ⟨w.heap.size,1,none⟩=some (.int .i64 r)/\ω.cell? ⟨w.heap.size,2,none⟩=some (.int .i64 s)/\ω.cell? ⟨w.heap.size,3,none⟩=some (.int .i64 c)) (first|(refine⟨?_,?_,?_,?_⟩<;>(repeat'(first|(with_reducible assumption)|(with_reducible refine zn ?_)|(with_reducible refine zt ?_)|(with_reducible refine zw ?_)|(with_reducible refine zS ?_ ?_)|(with_reducible refine za (by assumption) ?_ ?_)|omega|(simp;done)|(simp;omega)))<;>done)|go_keep) (first|(go_at_call 103;((with_reducible refine(HT.out _ _ (gW) (by unfold B64;omega)).mono ?_);rintro e w3 ⟨rfl,hb3⟩;have hz3:=hb3.size;(repeat(first|simp only[World.size_alloc]at hz3|simp only[World.size_drew]at hz3|simp only[World.size_setCell]at hz3))))|(go_at_call 65;go_loud ((with_reducible refine(jq _ _ _ X _ hTm (fun _=>HX.out)).mono ?_);rintro e w3 ⟨rfl,rfl⟩))|fail)
 have hH:w3.cell? ⟨w.heap.size,0,none⟩=some (.int .i64 t)/\w3.cell? ⟨w.heap.size,1,none⟩=some (.int .i64 r)/\w3.cell? ⟨w.heap.size,2,none⟩=some (.int .i64 s)/\w3.cell? ⟨w.heap.size,3,none⟩=some (.int .i64 c):=by assumption
 have hB3:Below w.heap.size w w3:=gW
 refine kz (fun ω=>Below w.heap.size w ω/\w.heap.size<ω.heap.size/\ω.cell? ⟨w.heap.size,0,none⟩=some (.int .i64 t)/\ω.cell? ⟨w.heap.size,1,none⟩=some (.int .i64 r)/\ω.cell? ⟨w.heap.size,2,none⟩=some (.int .i64 s)/\ω.cell? ⟨w.heap.size,3,none⟩=some (.int .i64 c)) ⟨hB3,by omega,hH⟩ ?_
 rintro w4 ⟨hB4,hl4,d0,d1,d2,d3⟩
 rename_i hHeld
 clear hHeld hH hB3 hB2 hy2_0 hf2_0 hc2_0_0 hc2_0_1 hc2_0_2 hc2_0_3
 go_wp2_with fail
 go_loopw [7] (fun l wr=>∃L:Int,l= .int .i64 L/\ -t<=L/\L<=t/\Hid (L=t\/X<T (L+1))/\Below w4.heap.size w4 wr) (fun l _=>(intOf l+t).toNat)
 case atStart=>exact⟨t,rfl,by omega,by omega,.inl rfl,Below.refl _ _⟩
 case round=>
  obtain⟨L,rfl,l1,l2,gL,hbw⟩:=hrel
  have hsz:=hbw.size
  have hBr:Below w.heap.size w wr:=hB4.trans (hbw.mono (by omega))
  have hlr:w.heap.size<wr.heap.size:=by omega
  have e0:wr.cell? ⟨w.heap.size,0,none⟩=_:=(hbw.cell (p:=⟨w.heap.size,0,none⟩) hl4).trans d0
  have e1:wr.cell? ⟨w.heap.size,1,none⟩=_:=(hbw.cell (p:=⟨w.heap.size,1,none⟩) hl4).trans d1
  have e2:wr.cell? ⟨w.heap.size,2,none⟩=_:=(hbw.cell (p:=⟨w.heap.size,2,none⟩) hl4).trans d2
  have e3:wr.cell? ⟨w.heap.size,3,none⟩=_:=(hbw.cell (p:=⟨w.heap.size,3,none⟩) hl4).trans d3
  have hwL:IntKind.wrap .i64 (L-1)=L-1:=IntWalk.i64_in _ ⟨by omega,by omega⟩
  by_cases hc: -t<L/\X<T L
  ·obtain⟨hc1,hc2⟩:=hc
   go_wp2_with (first|(go_at_call 103;((with_reducible refine(HT.out _ L (gW) (by unfold B64;omega)).mono ?_);rintro e w5 ⟨rfl,hb5⟩;have hz5:=hb5.size))|fail)
   all_goals
    go_roundw
    case rel=>exact⟨L-1,rfl,by omega,by omega,.inr (by rw[Int.sub_add_cancel];exact hc2),gW⟩
    case measure=>simp[intOf];omega
  ·have g2:Hid (L= -t\/T L<=X):=by unfold Hid;omega
   have tb:=HB.out L
   have hwX:IntKind.wrap .i64 (X-T L)=X-T L:=IntWalk.i64_in _ ⟨by omega,by omega⟩
   have hw1:IntKind.wrap .i64 (L+1)=L+1:=IntWalk.i64_in _ ⟨by omega,by omega⟩
   have hc':L<= -t\/(-t<L/\T L<=X):=by have:=g2.out;omega
   clear hc
   have HL0:Hid (-100000<=X-T L/\X-T L<=100000):=by unfold Hid;omega
   rcases hc' with hc1|⟨hc1,hc2⟩
   all_goals
    go_upto_region 5 with(first|(go_at_call 103;((with_reducible refine(HT.out _ L (gW) (by unfold B64;omega)).mono ?_);rintro e w5 ⟨rfl,hb5⟩;have hz5:=hb5.size))|fail)
    refine zT (fun ω=>Below w.heap.size w ω/\w.heap.size<ω.heap.size/\ω.cell? ⟨w.heap.size,0,none⟩=some (.int .i64 t)/\ω.cell? ⟨w.heap.size,1,none⟩=some (.int .i64 r)/\ω.cell? ⟨w.heap.size,2,none⟩=some (.int .i64 s)/\ω.cell? ⟨w.heap.size,3,none⟩=some (.int .i64 c)) ⟨gW,gS,gC,gC,gC,gC⟩ ?_
    rintro w6 ⟨hB6,hy6_0,hc6_0_0,hc6_0_1,hc6_0_2,hc6_0_3⟩
    go_wp2_with (first|(go_at_call 103;((with_reducible refine(HT.out _ L (gW) (by unfold B64;omega)).mono ?_);rintro e w7 ⟨rfl,hb7⟩;have hz7:=hb7.size))|fail)
    have f0':w7.cell? ⟨w.heap.size,0,none⟩=_:=(hb7.cell (p:=⟨w.heap.size,0,none⟩) hy6_0).trans hc6_0_0
    have f1':w7.cell? ⟨w.heap.size,1,none⟩=_:=(hb7.cell (p:=⟨w.heap.size,1,none⟩) hy6_0).trans hc6_0_1
    have f2':w7.cell? ⟨w.heap.size,2,none⟩=_:=(hb7.cell (p:=⟨w.heap.size,2,none⟩) hy6_0).trans hc6_0_2
    have f3':w7.cell? ⟨w.heap.size,3,none⟩=_:=(hb7.cell (p:=⟨w.heap.size,3,none⟩) hy6_0).trans hc6_0_3
    have hB7:Below w.heap.size w w7:=hB6.trans (hb7.mono (by omega))
    have hl7:w.heap.size<w7.heap.size:=by omega
    clear hb7 hc6_0_0 hc6_0_1 hc6_0_2 hc6_0_3 hB6 e0 e1 e2 e3 hBr hbw d0 d1 d2 d3 hB4
    generalize hl0:X-T L=l0 at*
    have HE:=Lib.hid hl0
    clear hl0
    obtain⟨wo,rfl⟩:∃x:World,x=wr:=⟨_,rfl⟩
    go_loopw [8,9,10] (fun lf v i wr=>∃k:Nat,k<=n/\i= .int .i64 k/\lf= .int .i64 (hlf tk L l0 k)/\wr.ownsRow w7.heap.size 3 1 v k (zbq tk L l0 k)/\Below w7.heap.size w7 wr) (fun _ _ i _=>n-(intOf i).toNat)
    case atStart=>exact⟨0,Nat.zero_le _,rfl,rfl,World.ownsRow_nil _ _ _ _,Below.refl _ _⟩
    case round=>
     obtain⟨k,hkn,rfl,rfl,hown,hbw⟩:=hrel
     have hsz:=hbw.size
     have hBr:Below w.heap.size w wr:=hB7.trans (hbw.mono (by omega))
     have hlr:w.heap.size<wr.heap.size:=by omega
     have e0:wr.cell? ⟨w.heap.size,0,none⟩=_:=(hbw.cell (p:=⟨w.heap.size,0,none⟩) hl7).trans f0'
     have e1:wr.cell? ⟨w.heap.size,1,none⟩=_:=(hbw.cell (p:=⟨w.heap.size,1,none⟩) hl7).trans f1'
     have e2:wr.cell? ⟨w.heap.size,2,none⟩=_:=(hbw.cell (p:=⟨w.heap.size,2,none⟩) hl7).trans f2'
     have e3:wr.cell? ⟨w.heap.size,3,none⟩=_:=(hbw.cell (p:=⟨w.heap.size,3,none⟩) hl7).trans f3'
     by_cases hlt:k<n
     ·have HR:=HW.out k hlt
      have c0:wr.cell? ⟨bl,off+k*3,none⟩=_:=(hBr.cell (p:=⟨bl,_,none⟩) hbl).trans HR.1
      have c1:wr.cell? ⟨bl,off+k*3+1,none⟩=_:=(hBr.cell (p:=⟨bl,_,none⟩) hbl).trans HR.2.1
      have c2:wr.cell? ⟨bl,off+k*3+2,none⟩=_:=(hBr.cell (p:=⟨bl,_,none⟩) hbl).trans HR.2.2
      have hlb:bl<wr.heap.size:=by omega
      have p1:=HC.out k hlt L
      have p2:=HC.out k hlt (L+1)
      have p3:=zfx tk L l0 HL0.out k
      have HA:=Lib.hid fun w1=>HK.out k hlt w1 L (by unfold B64;omega)
      have HD:=Lib.hid fun w1=>HK.out k hlt w1 (L+1) (by unfold B64;omega)
      have H1:Hid (hlf tk L l0 (k+1)=if 0<hlf tk L l0 k/\tk k L<tk k (L+1)then hlf tk L l0 k-1 else hlf tk L l0 k):=rfl
      have H2:Hid (hou tk L l0 k=if 0<hlf tk L l0 k/\tk k L<tk k (L+1)then tk k L+1 else tk k L):=rfl
      clear HR
      generalize hlf tk L l0 k=lf at*
      generalize tk k L=p at*
      generalize tk k (L+1)=q at*
      generalize f0 k=g0 at*
      generalize f1 k=g1 at*
      generalize fo k=go at*
      go_upto_region 10 with fail
      go_region_held3 (fun ω=>ω.cell? ⟨w.heap.size,0,none⟩=some (.int .i64 t)/\ω.cell? ⟨w.heap.size,1,none⟩=some (.int .i64 r)/\ω.cell? ⟨w.heap.size,2,none⟩=some (.int .i64 s)/\ω.cell? ⟨w.heap.size,3,none⟩=some (.int .i64 c)/\ω.cell? ⟨bl,off+k*3,none⟩=some (.int .i64 g0)/\ω.cell? ⟨bl,off+k*3+1,none⟩=some (.int .i64 g1)/\ω.cell? ⟨bl,off+k*3+2,none⟩=some (.bool go)) (first|(refine⟨?_,?_,?_,?_,?_,?_,?_⟩<;>(repeat'(first|(with_reducible assumption)|(with_reducible refine zn ?_)|(with_reducible refine zt ?_)|(with_reducible refine zw ?_)|(with_reducible refine zS ?_ ?_)|(with_reducible refine za (by assumption) ?_ ?_)|omega|(simp;done)|(simp;omega)))<;>done)|go_keep) (first|(go_at_call 104;((with_reducible refine(HA.out _).mono ?_);rintro e w8 ⟨rfl,hb8⟩;have hz8:=hb8.size;(repeat(first|simp only[World.size_drew]at hz8))))|fail)
      have hH:w8.cell? ⟨w.heap.size,0,none⟩=some (.int .i64 t)/\w8.cell? ⟨w.heap.size,1,none⟩=some (.int .i64 r)/\w8.cell? ⟨w.heap.size,2,none⟩=some (.int .i64 s)/\w8.cell? ⟨w.heap.size,3,none⟩=some (.int .i64 c)/\w8.cell? ⟨bl,off+k*3,none⟩=some (.int .i64 g0)/\w8.cell? ⟨bl,off+k*3+1,none⟩=some (.int .i64 g1)/\w8.cell? ⟨bl,off+k*3+2,none⟩=some (.bool go):=by assumption
      refine kz (fun ω=>Below w7.heap.size w7 ω/\w.heap.size<ω.heap.size/\bl<ω.heap.size/\ω.ownsRow w7.heap.size 3 1 u9 k (zbq tk L l0 k)/\ω.cell? ⟨w.heap.size,0,none⟩=some (.int .i64 t)/\ω.cell? ⟨w.heap.size,1,none⟩=some (.int .i64 r)/\ω.cell? ⟨w.heap.size,2,none⟩=some (.int .i64 s)/\ω.cell? ⟨w.heap.size,3,none⟩=some (.int .i64 c)/\ω.cell? ⟨bl,off+k*3,none⟩=some (.int .i64 g0)/\ω.cell? ⟨bl,off+k*3+1,none⟩=some (.int .i64 g1)/\ω.cell? ⟨bl,off+k*3+2,none⟩=some (.bool go)) ⟨gW,by omega,by omega,jl (w:=wr.drew) hown hb8,hH⟩ ?_
      rintro wa ⟨hBa,hla,hba,hoa,e0,e1,e2,e3,c0,c1,c2⟩
      rename_i hHeld _ _ _ _ _ _ _ _
      clear hHeld hH hown hbw hBr
      have hsa:=hBa.size
      by_cases hlf:0<lf
      ·have hg:decide (0<lf)=true:=by simpa using hlf
       go_upto_region 11 with fail
       go_region_held3 (fun ω=>ω.cell? ⟨w.heap.size,0,none⟩=some (.int .i64 t)/\ω.cell? ⟨w.heap.size,1,none⟩=some (.int .i64 r)/\ω.cell? ⟨w.heap.size,2,none⟩=some (.int .i64 s)/\ω.cell? ⟨w.heap.size,3,none⟩=some (.int .i64 c)/\ω.cell? ⟨bl,off+k*3,none⟩=some (.int .i64 g0)/\ω.cell? ⟨bl,off+k*3+1,none⟩=some (.int .i64 g1)/\ω.cell? ⟨bl,off+k*3+2,none⟩=some (.bool go)) (first|(refine⟨?_,?_,?_,?_,?_,?_,?_⟩<;>(repeat'(first|(with_reducible assumption)|(with_reducible refine zn ?_)|(with_reducible refine zt ?_)|(with_reducible refine zw ?_)|(with_reducible refine zS ?_ ?_)|(with_reducible refine za (by assumption) ?_ ?_)|omega|(simp;done)|(simp;omega)))<;>done)|go_keep) (first|(go_at_call 104;((with_reducible refine(HD.out _).mono ?_);rintro e w9 ⟨rfl,hb9⟩;have hz9:=hb9.size;(repeat(first|simp only[World.size_drew]at hz9))))|fail)
       refine kz (fun ω=>Below w7.heap.size w7 ω/\w.heap.size<ω.heap.size/\ω.ownsRow w7.heap.size 3 1 u9 k (zbq tk L l0 k)) ⟨gW,by omega,jl (w:=wa.drew) hoa hb9⟩ ?_
       rintro wb ⟨hBb,hlb2,hob⟩
       have hsb:=hBb.size
       have hwp:IntKind.wrap .i64 (p+1)=p+1:=IntWalk.i64_in _ ⟨by omega,by omega⟩
       have hwf:IntKind.wrap .i64 (lf-1)=lf-1:=IntWalk.i64_in _ ⟨by omega,by omega⟩
       clear hoa hBa hb9 HA HD e0 e1 e2 e3 c0 c1 c2
       by_cases hpq:p<q
       ·have H1:=H1.out.trans (if_pos ⟨hlf,hpq⟩)
        have H2:=H2.out.trans (if_pos ⟨hlf,hpq⟩)
        go_wp2_with (first|(at_builtin;go_loud (refine wpList_append_own _ rfl (.tmp 79) (.tmp 81) 22 rfl w7.heap.size 3 i0 (.int .i64 0) 1 8 Tryz.underlying22 hif hza hzb hzc rfl (by decide) _ _ _ rfl (World.ownsRow.alloc hob _) ⟨wb.heap.size,0,none⟩ 1 1 [.int .i64 (p+1)] rfl rfl (fun j u hj=>by match j,hj with|0,hj=>(simp at hj;subst hj;simp[Addr.add])) (by intro u hu;simp at hu;subst hu;rfl) (by unfold maxLen;omega) (by omega) (by simp;omega) ?_))|fail)
        intro v' w2' hown2 hgrow2 _
        rw[<-H2,<-zaX]at hown2
        have hBn:Below w7.heap.size w7 w2':=Below.grown (Below.alloc hBb (by omega) _) hgrow2 (by simp;omega) (fun q hq=>(hob.lt q hq).1)
        clear hgrow2 hob
        go_wp2
        go_roundw
        case rel=>exact⟨k+1,by omega,by go_num,by rw[H1],hown2,hBn⟩
        case measure=>simp[intOf];omega
       ·have H1:=H1.out.trans (if_neg fun h=>hpq h.2)
        have H2:=H2.out.trans (if_neg fun h=>hpq h.2)
        go_wp2_with (first|(at_builtin;go_loud (refine wpList_append_own _ rfl (.tmp 79) (.tmp 81) 22 rfl w7.heap.size 3 i0 (.int .i64 0) 1 8 Tryz.underlying22 hif hza hzb hzc rfl (by decide) _ _ _ rfl (World.ownsRow.alloc hob _) ⟨wb.heap.size,0,none⟩ 1 1 [.int .i64 (p)] rfl rfl (fun j u hj=>by match j,hj with|0,hj=>(simp at hj;subst hj;simp[Addr.add])) (by intro u hu;simp at hu;subst hu;rfl) (by unfold maxLen;omega) (by omega) (by simp;omega) ?_))|fail)
        intro v' w2' hown2 hgrow2 _
        rw[<-H2,<-zaX]at hown2
        have hBn:Below w7.heap.size w7 w2':=Below.grown (Below.alloc hBb (by omega) _) hgrow2 (by simp;omega) (fun q hq=>(hob.lt q hq).1)
        clear hgrow2 hob
        go_wp2
        go_roundw
        case rel=>exact⟨k+1,by omega,by go_num,by rw[H1],hown2,hBn⟩
        case measure=>simp[intOf];omega
      ·have hg:decide (0<lf)=false:=by simpa using hlf
       go_upto_region 11 with fail
       go_region
       refine kz (fun ω=>Below w7.heap.size w7 ω/\w.heap.size<ω.heap.size/\ω.ownsRow w7.heap.size 3 1 u9 k (zbq tk L l0 k)) ⟨gW,by first|exact hla|(simp;omega),hoa⟩ ?_
       rintro wb ⟨hBb,hlb2,hob⟩
       have hsb:=hBb.size
       have H1:=H1.out.trans (if_neg fun h=>hlf h.1)
       have H2:=H2.out.trans (if_neg fun h=>hlf h.1)
       clear hoa hBa HA HD e0 e1 e2 e3 c0 c1 c2
       go_wp2_with (first|(at_builtin;go_loud (refine wpList_append_own _ rfl (.tmp 79) (.tmp 81) 22 rfl w7.heap.size 3 i0 (.int .i64 0) 1 8 Tryz.underlying22 hif hza hzb hzc rfl (by decide) _ _ _ rfl (World.ownsRow.alloc hob _) ⟨wb.heap.size,0,none⟩ 1 1 [.int .i64 (p)] rfl rfl (fun j u hj=>by match j,hj with|0,hj=>(simp at hj;subst hj;simp[Addr.add])) (by intro u hu;simp at hu;subst hu;rfl) (by unfold maxLen;omega) (by omega) (by simp;omega) ?_))|fail)
       intro v' w2' hown2 hgrow2 _
       rw[<-H2,<-zaX]at hown2
       have hBn:Below w7.heap.size w7 w2':=Below.grown (Below.alloc hBb (by omega) _) hgrow2 (by simp;omega) (fun q hq=>(hob.lt q hq).1)
       clear hgrow2 hob
       go_wp2
       go_roundw
       case rel=>exact⟨k+1,by omega,by go_num,by rw[H1],hown2,hBn⟩
       case measure=>simp[intOf];omega
     ·have hkn:k=n:=by omega
      subst hkn
      go_wp2_with fail
      go_ret
      have hq:=yC (base':=w.heap.size) hown (by omega)
      exact⟨⟨_,L,rfl,l1,l2,g2.out,gL.out,by rw[HE.out];exact hq⟩,gW⟩
theorem zfy {g:GD} {t r x L:Int} (hL:ve g t r x=L):∀k,hlf (fun k y=>ptk t r (g.fi k 0) (g.fb k 2) y) L (j3 g t r x-q8 g t r L g.n) k=vf g t r x k
 |0=>by simp only[hlf,vf,hL]
 |k+1=>by simp only[hlf,vf,hL,zfy hL k]
theorem zmU {g:GD} {t r x L:Int} (hL:ve g t r x=L) (k:Nat):hou (fun k y=>ptk t r (g.fi k 0) (g.fb k 2) y) L (j3 g t r x-q8 g t r L g.n) k=Wi g t r x k:=by
 unfold hou Wi
 rw[zfy hL k,hL]
theorem zaY (g:GD) (hk:g.ks=[true,true,false]) (t r s c x:Int) (w:World) (o:g.ok w) (hz:qj g t r s c=0) (bx:B64 x):
  Calls Tryz.prog 69 #[.agg #[.int .i64 t,.int .i64 r,.int .i64 s,.int .i64 c],.slice g.A g.n g.c,.int .i64 x] w fun e w'=>(∃v,e= .returned v/\gM 3 w.heap.size w' (YH g t r x) v)/\Below w.heap.size w w':=by
 obtain⟨⟨a1,a2,a3,a4,a5,a6,a7,a8⟩,b1,b2,b3⟩:=xJ _ hz
 obtain⟨bl,off,eA,hbl,hrow⟩:=QU o hk b1
 have hT:=fun y=>Ko hz y
 have key:=YW bl off g.n g.c t r s c x (j3 g t r x) w (fun y=>q8 g t r y g.n) (fun k y=>ptk t r (g.fi k 0) (g.fb k 2) y) (fun k=>g.fi k 0) (fun k=>g.fi k 1) (fun k=>g.fb k 2) hbl hrow (by omega) (by omega) b2 hT (fun k hkn y=>by have:=Kn (b3 k hkn) y;omega) (wD _ _ _ (kx g t r (by omega) g.n)).symm (kx g t r (by omega) g.n)
  (fun w1 y hb hy=>by rw[<-eA];exact zd2 g hk t r s c y w1 (zff o hb) hz hy) (fun k hkn w1 y hy=>GJ t r s c (g.fi k 0) (g.fi k 1) (g.fb k 2) y w1 (b3 k hkn) (by obtain⟨_,q1,q2,q3,q4,_⟩:=zU (b3 k hkn);unfold B64;omega) hy)
 rw[eA]
 refine key.mono ?_
 rintro e w' ⟨⟨v,L,rfl,l1,l2,l3,l4,hown⟩,hB⟩
 have hL:ve g t r x=L:=MP (fun x y hxy=>kx g t r hxy g.n) (by omega) l1 l2 l3 l4
 refine⟨⟨v,rfl,?_⟩,hB⟩
 have hl:zbq (fun k y=>ptk t r (g.fi k 0) (g.fb k 2) y) L (j3 g t r x-q8 g t r L g.n) g.n=(List.range g.n).map fun k=> .int .i64 (Wi g t r x k):=by
  unfold zbq
  exact List.map_congr_left fun i _=>by rw[zmU hL i]
 rw[hl]at hown
 exact YV hown b1
end Go.Proofs.YtoakpnoajmngmaaGreatDoor.Sx
namespace Go.Proofs.YtoakpnoajmngmaaGreatDoor.Sx
open Go.RowKit
section
variable {G:Nat->GD} {ρ:Env}
end
end Go.Proofs.YtoakpnoajmngmaaGreatDoor.Sx
namespace Go.Proofs.YtoakpnoajmngmaaGreatDoor.Sx
end Go.Proofs.YtoakpnoajmngmaaGreatDoor.Sx
namespace Go.Proofs.YtoakpnoajmngmaaGreatDoor.Sx
open Go.RowKit
def zaZ:List (Nat × List (Nat × List Nat)):=[(70,[(0,[3,4,5,6,7,10]),(1,[5,6,7,10,18]),(2,[6,10]),(3,[10])]),
 (87,[(0,[3,4,5,6,7,10]),(1,[3,4,5,6,7,10,12]),(2,[3,4,5,6,7,10,12,19]),(3,[10,11]),(4,[5,6,7,10,29]),(5,[10,11]),(6,[5,6,7,10,13]),(7,[5,6,7,10,13]),(8,[6,10]),(9,[10,11])])]
def tdR:ME:=⟨70,vC,[],0,⟨.agg ([vi 25 (-100000) 100000,.int .i64 ⟨(.ite (.bin .and (.bin .eq (.v 33) (.v 34)) (.bin .eq (.v 31) (.c 0))) (.ap 2 .nil) (.v 26)),(-4000),4000⟩,vi 27 0 3]),[],4⟩,[]⟩
def tdP:ME:=⟨87,vC,[],0,⟨.tup ([.agg ([vi 25 (-100000) 100000,.int .i64 ⟨(.ite (.bin .or (.un .not (.bin .eq (.v 33) (.v 34))) (.un .not (.bin .eq (.v 31) (.c 0)))) (.v 26) (.ap 2 .nil)),(-4000),4000⟩,vi 27 0 3]),.nili]),[],7⟩,[]⟩
theorem zmV:tdR.chk (zH Tryz.prog 44 (qb zgR zaZ 50 100000) (zi Tryz.prog 44) 20 [] tdR.f tdR.args tdR.H tdR.nx)=true:=by kernel_rfl
theorem zmW:tdP.chk (zH Tryz.prog 44 (qb zgR zaZ 50 100000) (zi Tryz.prog 44) 20 [] tdP.f tdP.args tdP.H tdP.nx)=true:=by kernel_rfl
theorem zfz {P:Program} {et:TypeId} {cfg:Cfg} {e:ME} (hk:e.chk (zH P et cfg (zi P et) 20 [] e.f e.args e.H e.nx)=true) (hvs:e.vs=[]) {ρ:Env} (he:ρ.et=et) (hs:HOK P ρ cfg.sum) (b:Bd) (w:World) (hH:HRel ρ b (· <w.heap.size) w e.H (· <e.nx)) (ha:SV.okL ρ (· <e.nx) e.args) (hm:Mem ρ (· <w.heap.size) w):
  Calls P e.f (SV.denL ρ b e.args).toArray w fun x w'=>(∃b',x= .returned (e.c.v.den ρ b')/\zM b b' (· <e.nx)/\HRel ρ b' (· <w.heap.size) w' e.c.heap (· <e.c.next)/\e.c.v.ok ρ (· <e.c.next))/\Below w.heap.size w w':=by
 unfold ME.chk at hk
 split at hk
 ·rename_i c vs hc
  rw[Bool.and_eq_true,List.all_eq_true]at hk
  have hcc:=CR.same_eq hk.1
  subst hcc
  refine Kj he hs hc (fun v hv=>?_) b w hH ha hm
  have:=hk.2 v hv
  rw[hvs,Bool.or_eq_true]at this
  rcases this with this|this
  ·exact VC.triv_ok this ρ
  ·simp at this
 ·cases hk
theorem jb:∀ {l m:List E},jv l m=true->l=m
 |[],[],_=>rfl
 |a::l,b::m,h=>by
  simp only[jv,Bool.and_eq_true]at h
  rw[E.same_eq h.1,jb h.2]
 |[],_::_,h=>by simp[jv]at h
 |_::_,[],h=>by simp[jv]at h
theorem VW (bu x:Int) (h0:0<=bu):qa (fun i=>if i=0 then 0 else if i=1 then 1 else 0) (fun i=>if i=0 then bu else if i=1 then bu else 0) 2 x=bu:=by
 unfold qa
 have h1:zm x ((fun i=>if i=0 then 0 else if i=1 then 1 else 0:Nat->Int) 0) ((fun i=>if i=0 then 0 else if i=1 then 1 else 0:Nat->Int) (2-1))=zm x 0 1:=rfl
 rw[h1]
 generalize zm x 0 1=y
 simp[zbr,ppc,Za]
theorem VX (bu:Int) (h:0<=bu/\bu<=65536):zC (fun i=>if i=0 then 0 else if i=1 then 1 else 0) 2 (fun i=>if i=0 then bu else if i=1 then bu else 0) 2=0:=by
 have h1: -1000000<=bu/\bu<=1000000:=by omega
 simp[zC,zR,z7,kX,por,h1]
def Kz (bu mo aim held is al want got:Int):Int:=if want=got/\al=0 then zm (held+jr bu aim is) (-mo) mo else held
def tdF (lo hi tu bu mo aim held law st is sp al pr want got:Int):Nat->Int:=fun n=>match n with
 |20=>lo|21=>hi|22=>tu|23=>bu|24=>mo|25=>aim|26=>held|27=>law|28=>st|29=>is|30=>sp|31=>al|32=>pr|33=>want|34=>got|_=>0
theorem zfA:∀ {l:List SV} {m:List E},eOf l=some m->∀(ρ:Env) (b:Bd),SV.denL ρ b l=m.map fun e=> .int .i64 (e.i ρ)
 |[],m,h,ρ,b=>by simp only[eOf,Option.some.injEq]at h;subst h;rfl
 | .int .i64 r::l,m,h,ρ,b=>by
   simp only[eOf,Option.map_eq_some_iff]at h
   obtain⟨k,h1,rfl⟩:=h
   simp only[SV.denL,SV.den,zfA h1 ρ b,List.map_cons]
theorem za0 {l:List SV} {m:List E} (h:eIs l m=true) (ρ:Env) (b:Bd):SV.denL ρ b l=m.map fun e=> .int .i64 (e.i ρ):=by
 unfold eIs at h
 split at h
 ·rename_i k hk
  rw[<-jb h]
  exact zfA hk ρ b
 ·cases h
section
variable {g d:GD} {lo hi tu bu mo aim held law st is sp al pr want got:Int} {ρ:Env}
abbrev TdJ (g d:GD) (lo hi tu bu mo aim held law st is sp al pr want got:Int) (ρ:Env):Prop:=Jm (fun _ id _=>if id=1 then jr bu aim is else if id=2 then zm (held+jr bu aim is) (-mo) mo else 0) (fun _ _ _=>false) (jc g d) (fun n=>if n=100 then(g.n:Int)else if n=101 then(d.n:Int)else tdF lo hi tu bu mo aim held law st is sp al pr want got n) (fun _=>false) ρ
structure TdG (g d:GD) (lo hi tu bu mo aim held law st is sp al pr want got:Int):Prop where
 k:g.ks=[true]
 k':d.ks=[true]
 n:g.n<=20
 n':d.n<=20
 ph:zK lo hi tu bu mo (zC g.f g.n d.f d.n) (zX d.f d.n)=0
 a:lo<=aim/\aim<=hi
 hd: -mo<=held/\held<=mo
 l:0<=law/\law<=3
 st: -100<=st/\st<=100
 is: -1000000<=is/\is<=1000000
 sp: -1000000<=sp/\sp<=1000000
 al:0<=al/\al<=3
 pr: -mo<=pr/\pr<=mo
 w: -4000<=want/\want<=4000
 g: -4000<=got/\got<=4000
theorem TdG.B (T:TdG g d lo hi tu bu mo aim held law st is sp al pr want got):AkB aim held law st is sp al pr/\Q9 lo hi mo aim held law/\Ja mo st al pr:=by
 obtain⟨⟨r1,r2,r3⟩,r4,r5,r6,hpl⟩:=zr T.ph
 have t1:=T.a
 have t2:=T.hd
 have t3:=T.l
 have t4:=T.st
 have t5:=T.is
 have t6:=T.sp
 have t7:=T.al
 have t8:=T.pr
 refine⟨⟨?_,?_,?_,?_,?_,?_,?_,?_⟩,?_,?_⟩<;>first|(unfold B64;omega)|(unfold Q9;omega)|(unfold Ja;omega)
theorem zfB (J:TdJ g d lo hi tu bu mo aim held law st is sp al pr want got ρ) {l:List SV} (h:Qi l=true) (b:Bd):∃al',SV.denL ρ b l=[.int .i64 st,.int .i64 is,.int .i64 sp,.int .i64 al',.int .i64 pr]:=by
 have e0:(E.v 28).i ρ=st:=J.at_ 28 rfl
 have e1:(E.v 29).i ρ=is:=J.at_ 29 rfl
 have e2:(E.v 30).i ρ=sp:=J.at_ 30 rfl
 have e4:(E.v 32).i ρ=pr:=J.at_ 32 rfl
 unfold Qi at h
 rw[Bool.or_eq_true]at h
 rcases h with h|h
 ·exact⟨(E.v 31).i ρ,by rw[za0 h ρ b];simp only[ze9,List.map_cons,List.map_nil,e0,e1,e2,e4]⟩
 ·exact⟨(E.c 0).i ρ,by rw[za0 h ρ b];simp only[List.map_cons,List.map_nil,e0,e1,e2,e4]⟩
theorem zeo (J:TdJ g d lo hi tu bu mo aim held law st is sp al pr want got ρ):(kE 1).i ρ=jr bu aim is:=J.std.f (id:=1) rfl []
theorem zep (J:TdJ g d lo hi tu bu mo aim held law st is sp al pr want got ρ):(kE 2).i ρ=zm (held+jr bu aim is) (-mo) mo:=J.std.f (id:=2) rfl []
theorem ZF (N:Nat->Prop) (J:TdJ g d lo hi tu bu mo aim held law st is sp al pr want got ρ):(kI 1 (-2147483647) 2147483647).ok ρ N:=by
 have:=GP bu aim is
 show -2147483647<=(kE 1).i ρ/\(kE 1).i ρ<=2147483647
 rw[zeo J];exact this
theorem zq1 (J:TdJ g d lo hi tu bu mo aim held law st is sp al pr want got ρ) (T:TdG g d lo hi tu bu mo aim held law st is sp al pr want got):HOK Tryz.prog ρ (zb 100 Ye):=by
 refine zo fun args gs v hp hg b base w N hok hm hbase=>?_
 unfold Ye at hp
 split at hp
 ·rename_i x y ask
  split at hp
  ·rename_i hc
   cases hp
   rw[Bool.and_eq_true]at hc
   have h1:=jb hc.1
   simp only[List.cons.injEq,and_true]at h1
   obtain⟨al',hd⟩:=zfB J hc.2 b
   have e0:(E.v 23).i ρ=bu:=J.at_ 23 rfl
   have e1:(E.v 25).i ρ=aim:=J.at_ 25 rfl
   have hd2:(SV.denL ρ b [.int .i64 x,.int .i64 y,.agg ask]).toArray=#[.int .i64 bu,.int .i64 aim,.agg #[.int .i64 st,.int .i64 is,.int .i64 sp,.int .i64 al',.int .i64 pr]]:=by
    simp only[SV.denL,SV.den,hd,h1.1,h1.2,e0,e1]
   rw[hd2]
   obtain⟨⟨r1,r2,r3⟩,r4,r5,r6,hpl⟩:=zr T.ph
   have:=T.a
   refine(zaW bu aim st is sp al' pr w (by omega)).mono ?_
   rintro e w' ⟨y1,y2⟩
   exact⟨by rw[y1];simp only[kI,SV.den,zeo J],ZF N J,y2⟩
  ·cases hp
 ·cases hp
theorem za1 {F:FuncId} (J:TdJ g d lo hi tu bu mo aim held law st is sp al pr want got ρ) (T:TdG g d lo hi tu bu mo aim held law st is sp al pr want got) (hc:∀(x lo hi:Int) (w:World),lo<=hi->Calls Tryz.prog F #[.int .i64 x,.int .i64 lo,.int .i64 hi] w fun e w'=>e= .returned (.int .i64 (zm x lo hi))/\w=w'):HOK Tryz.prog ρ (zb F XN):=by
 refine zo fun args gs v hp hg b base w N hok hm hbase=>?_
 unfold XN at hp
 split at hp
 ·rename_i x y z
  split at hp
  ·rename_i hcc
   cases hp
   have h1:=jb hcc
   simp only[List.cons.injEq,and_true]at h1
   obtain⟨h0,h1,h2⟩:=h1
   obtain⟨⟨r1,r2,r3⟩,r4,r5,r6,hpl⟩:=zr T.ph
   have e0:(E.bin .add (.v 26) (kE 1)).i ρ=held+jr bu aim is:=by
    rw[show(E.bin .add (.v 26) (kE 1)).i ρ=(E.v 26).i ρ+(kE 1).i ρ from rfl,zeo J]
    rw[show(E.v 26).i ρ=held from J.at_ 26 rfl]
   have e2:(E.v 24).i ρ=mo:=J.at_ 24 rfl
   have e1:(ze5 (.v 24)).i ρ= -mo:=by
    show(0:Int)-(E.v 24).i ρ= -mo
    rw[e2];omega
   have hd2:(SV.denL ρ b [.int .i64 x,.int .i64 y,.int .i64 z]).toArray=#[.int .i64 (held+jr bu aim is),.int .i64 (-mo),.int .i64 mo]:=by
    simp only[SV.denL,SV.den,h0,h1,h2,e0,e1,e2]
   rw[hd2]
   refine(hc _ _ _ w (by omega)).mono ?_
   rintro e w' ⟨y1,rfl⟩
   have hb:=qQ (held+jr bu aim is) (show -mo<=mo by omega)
   refine⟨by rw[y1];simp only[kI,SV.den,zep J],?_,Below.refl _ _⟩
   show -4000<=(kE 2).i ρ/\(kE 2).i ρ<=4000
   rw[zep J];omega
  ·cases hp
 ·cases hp
theorem zfC {b:Bd} {base:Nat->Prop} {w:World} {H:List (Nat × HEnt)} {N:Nat->Prop} (hH:HRel ρ b base w H N) {v:SV} {x y:E} (h:zb7 H v x y=true) (hx:B64 (x.i ρ)) (hy:B64 (y.i ρ)):∃A c,v.den ρ b= .slice A 2 c/\(⟨A,c,2,[true],fun i _=>if i=0 then x.i ρ else if i=1 then y.i ρ else 0,fun _ _=>false⟩:GD).ok w:=by
 unfold zb7 at h
 split at h
 ·rename_i n cap
  split at h
  ·rename_i cells ty kd hf
   have hd:=za0 h ρ b
   obtain⟨q1,q2,q3⟩:=hH.mem n _ hf (zq ρ)
   refine⟨_,_,rfl,⟨by show 2<=9223372036854775807;omega,fun i j hi hj=>?_,fun i j=>?_⟩⟩
   ·have hi2:i<2:=hi
    have hj0:j=0:=by have:j<1:=hj;omega
    subst hj0
    have hlen:cells.length=2:=by have:=congrArg List.length hd;simpa [zk]using this
    obtain⟨u,hu⟩:∃u,cells[i*1+0]? =some u:=⟨_,List.getElem?_eq_getElem (by omega)⟩
    have hcell:=q2.cell hu
    have hlt2:b.β n<w.heap.size:=by
     cases hq:w.heap[b.β n]? with
     |none=>simp[World.cell?,hq]at hcell
     |some o=>exact(Array.getElem?_eq_some_iff.1 hq).1
    refine⟨b.β n,b.o n,rfl,hlt2,?_⟩
    show w.cell? ⟨b.β n,b.o n+(i*1+0),none⟩=_
    rw[hcell]
    have hv:(SV.denL ρ b cells)[i*1+0]? =some (u.den ρ b):=by rw[qm,hu];rfl
    rw[hd]at hv
    rw[<-hv]
    obtain rfl|rfl:i=0\/i=1:=by omega
    ·simp[GD.val]
    ·simp[GD.val]
   ·show B64 (if i=0 then x.i ρ else if i=1 then y.i ρ else 0)
    split
    ·exact hx
    ·split
     ·exact hy
     ·unfold B64;omega
  ·cases h
 ·cases h
theorem zq2 (J:TdJ g d lo hi tu bu mo aim held law st is sp al pr want got ρ) (T:TdG g d lo hi tu bu mo aim held law st is sp al pr want got):HOK Tryz.prog ρ (jn 113 Mr):=by
 refine yM fun args H gs v hp hg b base w N hH hok hm hbase=>?_
 unfold Mr at hp
 split at hp
 ·rename_i rlo rhi rtu rbu rmo gv dv raim ask
  split at hp
  ·rename_i hc
   cases hp
   simp only[Bool.and_eq_true]at hc
   obtain⟨⟨⟨h1,h2⟩,h3⟩,h4⟩:=hc
   have h1:=jb h1
   simp only[List.cons.injEq,and_true]at h1
   obtain⟨i0,i1,i2,i3,i4,i5⟩:=h1
   obtain⟨al',hd⟩:=zfB J h2 b
   have e0:(E.v 20).i ρ=lo:=J.at_ 20 rfl
   have e1:(E.v 21).i ρ=hi:=J.at_ 21 rfl
   have e2:(E.v 22).i ρ=tu:=J.at_ 22 rfl
   have e3:(E.v 23).i ρ=bu:=J.at_ 23 rfl
   have e4:(E.v 24).i ρ=mo:=J.at_ 24 rfl
   have e5:(E.v 25).i ρ=aim:=J.at_ 25 rfl
   obtain⟨⟨r1,r2,r3⟩,r4,r5,r6,hpl⟩:=zr T.ph
   have hb64:B64 ((E.v 23).i ρ):=by rw[e3];unfold B64;omega
   obtain⟨A0,c0,d0,o0⟩:=zfC hH h3 (show B64 ((E.c 0).i ρ)by unfold B64;simp only[E.i];omega) (show B64 ((E.c 1).i ρ)by unfold B64;simp only[E.i];omega)
   obtain⟨A1,c1,d1,o1⟩:=zfC hH h4 hb64 hb64
   have hd2:(SV.denL ρ b [.agg [.int .i64 rlo,.int .i64 rhi,.int .i64 rtu,.int .i64 rbu,.int .i64 rmo,gv,dv],.int .i64 raim,.agg ask]).toArray=#[.agg #[.int .i64 lo,.int .i64 hi,.int .i64 tu,.int .i64 bu,.int .i64 mo,.slice A0 2 c0,.slice A1 2 c1],.int .i64 aim,.agg #[.int .i64 st,.int .i64 is,.int .i64 sp,.int .i64 al',.int .i64 pr]]:=by
    rw[show(SV.denL ρ b [.agg [.int .i64 rlo,.int .i64 rhi,.int .i64 rtu,.int .i64 rbu,.int .i64 rmo,gv,dv],.int .i64 raim,.agg ask]).toArray=#[.agg #[.int .i64 (rlo.e.i ρ),.int .i64 (rhi.e.i ρ),.int .i64 (rtu.e.i ρ),.int .i64 (rbu.e.i ρ),.int .i64 (rmo.e.i ρ),gv.den ρ b,dv.den ρ b],.int .i64 (raim.e.i ρ),.agg (SV.denL ρ b ask).toArray]from by simp only[SV.denL,zA,zh]]
    rw[d0,d1,hd,i0,i1,i2,i3,i4,i5,e0,e1,e2,e3,e4,e5]
   rw[hd2]
   have:=T.a
   have:=T.sp
   have hl:=VX bu ⟨by omega,by omega⟩
   refine(GO ⟨A0,c0,2,[true],fun i _=>if i=0 then(E.c 0).i ρ else if i=1 then(E.c 1).i ρ else 0,fun _ _=>false⟩ ⟨A1,c1,2,[true],fun i _=>if i=0 then(E.v 23).i ρ else if i=1 then(E.v 23).i ρ else 0,fun _ _=>false⟩ rfl rfl (by show 2<=1000;omega) (by show 2<=1000;omega) lo hi tu bu mo aim st is sp al' pr (by unfold B64;omega) (by omega) ?_ w o0 o1).mono ?_
   ·rw[e3];exact hl
   ·rintro e w' ⟨y1,y2⟩
    refine⟨?_,ZF N J,y2⟩
    rw[y1]
    have hlook:=VW bu sp (by omega)
    simp only[kI,SV.den,zeo J]
    rw[show qa (GD.f ⟨A0,c0,2,[true],fun i _=>if i=0 then(E.c 0).i ρ else if i=1 then(E.c 1).i ρ else 0,fun _ _=>false⟩) (GD.f ⟨A1,c1,2,[true],fun i _=>if i=0 then(E.v 23).i ρ else if i=1 then(E.v 23).i ρ else 0,fun _ _=>false⟩) 2 sp=bu from by rw[e3];exact hlook]
  ·cases hp
 ·cases hp
theorem zeq {w0:World} (J:TdJ g d lo hi tu bu mo aim held law st is sp al pr want got ρ) (T:TdG g d lo hi tu bu mo aim held law st is sp al pr want got) (o:g.ok w0) (o':d.ok w0) (hargs:∀N,SV.okL ρ N vC):HOK Tryz.prog ρ (zb 112 gV):=by
 refine zo fun args gs v hp hg b base w N hok hm hbase=>?_
 unfold gV at hp
 split at hp
 ·rename_i hc
  cases hp
  have:=SV.sameL_eq _ _ hc
  subst this
  obtain⟨⟨_,_,_,_,_,og,od,_⟩,_⟩:=hok
  have g0:=J.std.slice og (b:=b)
  have d0:=J.std.slice od (b:=b)
  have hd:(SV.denL ρ b [.agg jF,.agg jp,.agg gU]).toArray=#[.agg #[.int .i64 lo,.int .i64 hi,.int .i64 tu,.int .i64 bu,.int .i64 mo,.slice g.A g.n g.c,.slice d.A d.n d.c],.agg #[.int .i64 aim,.int .i64 held,.int .i64 law],.agg #[.int .i64 st,.int .i64 is,.int .i64 sp,.int .i64 al,.int .i64 pr]]:=by
   rw[show(SV.denL ρ b [.agg jF,.agg jp,.agg gU]).toArray=#[.agg #[.int .i64 ((E.v 20).i ρ),.int .i64 ((E.v 21).i ρ),.int .i64 ((E.v 22).i ρ),.int .i64 ((E.v 23).i ρ),.int .i64 ((E.v 24).i ρ),(qS 0 100).den ρ b,(qS 1 101).den ρ b],.agg #[.int .i64 ((E.v 25).i ρ),.int .i64 ((E.v 26).i ρ),.int .i64 ((E.v 27).i ρ)],.agg #[.int .i64 ((E.v 28).i ρ),.int .i64 ((E.v 29).i ρ),.int .i64 ((E.v 30).i ρ),.int .i64 ((E.v 31).i ρ),.int .i64 ((E.v 32).i ρ)]]from by simp only[jF,jp,gU,vi,SV.denL,zA,zh]]
   rw[show(qS 0 100).den ρ b= .slice g.A g.n g.c from g0,show(qS 1 101).den ρ b= .slice d.A d.n d.c from d0]
   rw[show(E.v 20).i ρ=lo from J.at_ 20 rfl,show(E.v 21).i ρ=hi from J.at_ 21 rfl,show(E.v 22).i ρ=tu from J.at_ 22 rfl,show(E.v 23).i ρ=bu from J.at_ 23 rfl,show(E.v 24).i ρ=mo from J.at_ 24 rfl,show(E.v 25).i ρ=aim from J.at_ 25 rfl,show(E.v 26).i ρ=held from J.at_ 26 rfl,show(E.v 27).i ρ=law from J.at_ 27 rfl,show(E.v 28).i ρ=st from J.at_ 28 rfl,show(E.v 29).i ρ=is from J.at_ 29 rfl,show(E.v 30).i ρ=sp from J.at_ 30 rfl,show(E.v 31).i ρ=al from J.at_ 31 rfl,show(E.v 32).i ρ=pr from J.at_ 32 rfl]
  rw[hd]
  obtain⟨⟨r1,r2,r3⟩,r4,r5,r6,hpl⟩:=zr T.ph
  have n1:=T.n
  have n2:=T.n'
  have og2:=J.std.row (zx o o') hm hbase 0
  have od2:=J.std.row (zx o o') hm hbase 1
  refine(mH g d T.k T.k' T.n T.n' lo hi tu bu mo aim held law st is sp al pr T.B.1 w og2 od2 T.ph T.B.2.1 T.B.2.2).mono ?_
  rintro e w' ⟨y1,y2⟩
  exact⟨by rw[y1];rfl,trivial,y2⟩
 ·cases hp
theorem YX {w:World} (J:TdJ g d lo hi tu bu mo aim held law st is sp al pr want got ρ) (T:TdG g d lo hi tu bu mo aim held law st is sp al pr want got) (o:g.ok w) (o':d.ok w) (N:Nat->Prop) (b:Bd):SV.okL ρ N vC/\(SV.denL ρ b vC).toArray=#[.agg #[.int .i64 lo,.int .i64 hi,.int .i64 tu,.int .i64 bu,.int .i64 mo,.slice g.A g.n g.c,.slice d.A d.n d.c],.agg #[.int .i64 aim,.int .i64 held,.int .i64 law],.agg #[.int .i64 st,.int .i64 is,.int .i64 sp,.int .i64 al,.int .i64 pr],.int .i64 want,.int .i64 got]:=by
 have v20:(E.v 20).i ρ=lo:=J.at_ 20 rfl
 have v21:(E.v 21).i ρ=hi:=J.at_ 21 rfl
 have v22:(E.v 22).i ρ=tu:=J.at_ 22 rfl
 have v23:(E.v 23).i ρ=bu:=J.at_ 23 rfl
 have v24:(E.v 24).i ρ=mo:=J.at_ 24 rfl
 have v25:(E.v 25).i ρ=aim:=J.at_ 25 rfl
 have v26:(E.v 26).i ρ=held:=J.at_ 26 rfl
 have v27:(E.v 27).i ρ=law:=J.at_ 27 rfl
 have v28:(E.v 28).i ρ=st:=J.at_ 28 rfl
 have v29:(E.v 29).i ρ=is:=J.at_ 29 rfl
 have v30:(E.v 30).i ρ=sp:=J.at_ 30 rfl
 have v31:(E.v 31).i ρ=al:=J.at_ 31 rfl
 have v32:(E.v 32).i ρ=pr:=J.at_ 32 rfl
 have v33:(E.v 33).i ρ=want:=J.at_ 33 rfl
 have v34:(E.v 34).i ρ=got:=J.at_ 34 rfl
 obtain⟨⟨r1,r2,r3⟩,r4,r5,r6,hpl⟩:=zr T.ph
 have n1:=T.n
 have n2:=T.n'
 have t1:=T.a
 have t2:=T.hd
 have t3:=T.l
 have t4:=T.st
 have t5:=T.is
 have t6:=T.sp
 have t7:=T.al
 have t8:=T.pr
 have t9:=T.w
 have t10:=T.g
 obtain⟨p1,p2⟩:=J.std.osl (zx o o') (k:=0) (sh:=[.int .i64 (-9223372036854775808) 9223372036854775807]) (by show(jc g d 0).ks.map vN=_;rw[show jc g d 0=g from rfl,T.k];rfl) (by show(jc g d 0).ks.length<=100;rw[show jc g d 0=g from rfl,T.k];decide) (e:= .v 100) (lo:=0) (hi:=20) (J.at_ 100 rfl) (Int.le_refl _) (Int.natCast_nonneg _) (by show(g.n:Int)<=20;omega) N b
 obtain⟨p3,p4⟩:=J.std.osl (zx o o') (k:=1) (sh:=[.int .i64 (-9223372036854775808) 9223372036854775807]) (by show(jc g d 1).ks.map vN=_;rw[show jc g d 1=d from rfl,T.k'];rfl) (by show(jc g d 1).ks.length<=100;rw[show jc g d 1=d from rfl,T.k'];decide) (e:= .v 101) (lo:=0) (hi:=20) (J.at_ 101 rfl) (Int.le_refl _) (Int.natCast_nonneg _) (by show(d.n:Int)<=20;omega) N b
 refine⟨?_,?_⟩
 ·simp only[vC,jF,jp,gU,vi,SV.okL,SV.ok,R.ok,v20,v21,v22,v23,v24,v25,v26,v27,v28,v29,v30,v31,v32,v33,v34,and_true]
  refine⟨⟨?_,?_,?_,?_,?_,p1,p3⟩,⟨?_,?_,?_⟩,⟨?_,?_,?_,?_,?_⟩,?_,?_⟩<;>omega
 ·rw[show(SV.denL ρ b vC).toArray=#[.agg #[.int .i64 ((E.v 20).i ρ),.int .i64 ((E.v 21).i ρ),.int .i64 ((E.v 22).i ρ),.int .i64 ((E.v 23).i ρ),.int .i64 ((E.v 24).i ρ),(qS 0 100).den ρ b,(qS 1 101).den ρ b],.agg #[.int .i64 ((E.v 25).i ρ),.int .i64 ((E.v 26).i ρ),.int .i64 ((E.v 27).i ρ)],.agg #[.int .i64 ((E.v 28).i ρ),.int .i64 ((E.v 29).i ρ),.int .i64 ((E.v 30).i ρ),.int .i64 ((E.v 31).i ρ),.int .i64 ((E.v 32).i ρ)],.int .i64 ((E.v 33).i ρ),.int .i64 ((E.v 34).i ρ)]from by simp only[vC,jF,jp,gU,vi,SV.denL,zA,zh]]
  rw[show(qS 0 100).den ρ b= .slice g.A g.n g.c from p2,show(qS 1 101).den ρ b= .slice d.A d.n d.c from p4,v20,v21,v22,v23,v24,v25,v26,v27,v28,v29,v30,v31,v32,v33,v34]
theorem zfD {w:World} (J:TdJ g d lo hi tu bu mo aim held law st is sp al pr want got ρ) (T:TdG g d lo hi tu bu mo aim held law st is sp al pr want got) (o:g.ok w) (o':d.ok w):HOK Tryz.prog ρ zgR:=
 zc (zeq J T o o' fun N=>(YX J T o o' N ⟨fun _=>0,fun _=>0,fun _=>0⟩).1) (zc (zq2 J T) (zc (za1 J T fun x lo hi w _=>jP x lo hi _ w (fun _=>rfl)) (zc (zq1 J T) (zc (za1 J T fun x lo hi w hle=>jq x lo hi _ w hle (fun _=>rfl)) (zP _ _)))))
end
theorem zfE (g d:GD) (lo hi tu bu mo aim held law st is sp al pr want got:Int):∃ρ,TdJ g d lo hi tu bu mo aim held law st is sp al pr want got ρ:=Jm.start _ _ _ _ _
theorem zik (g d:GD) (lo hi tu bu mo aim held law st is sp al pr want got:Int) (T:TdG g d lo hi tu bu mo aim held law st is sp al pr want got) (w:World) (o:g.ok w) (o':d.ok w):
  Calls Tryz.prog 70 #[.agg #[.int .i64 lo,.int .i64 hi,.int .i64 tu,.int .i64 bu,.int .i64 mo,.slice g.A g.n g.c,.slice d.A d.n d.c],.agg #[.int .i64 aim,.int .i64 held,.int .i64 law],.agg #[.int .i64 st,.int .i64 is,.int .i64 sp,.int .i64 al,.int .i64 pr],.int .i64 want,.int .i64 got] w fun e w'=>e= .returned (.agg #[.int .i64 aim,.int .i64 (Kz bu mo aim held is al want got),.int .i64 law])/\Below w.heap.size w w':=by
 obtain⟨ρ,J⟩:=zfE g d lo hi tu bu mo aim held law st is sp al pr want got
 obtain⟨a1,a2⟩:=YX J T o o' (· <0) ⟨fun _=>0,fun _=>0,fun _=>0⟩
 rw[<-a2]
 refine(zfz zmV rfl J.std.et (zfD J T o o') ⟨fun _=>0,fun _=>0,fun _=>0⟩ w (qU _ _ _ _) a1 (J.mem (zx o o'))).mono ?_
 rintro e w' ⟨⟨b',h1,_⟩,h2⟩
 refine⟨?_,h2⟩
 rw[h1]
 have v25:(E.v 25).i ρ=aim:=J.at_ 25 rfl
 have v26:(E.v 26).i ρ=held:=J.at_ 26 rfl
 have v27:(E.v 27).i ρ=law:=J.at_ 27 rfl
 have v31:(E.v 31).i ρ=al:=J.at_ 31 rfl
 have v33:(E.v 33).i ρ=want:=J.at_ 33 rfl
 have v34:(E.v 34).i ρ=got:=J.at_ 34 rfl
 have hk:=zep J
 have hv:(E.ite (.bin .and (.bin .eq (.v 33) (.v 34)) (.bin .eq (.v 31) (.c 0))) (.ap 2 .nil) (.v 26)).i ρ=Kz bu mo aim held is al want got:=by
  show(if(decide ((E.v 33).i ρ=(E.v 34).i ρ)&&decide ((E.v 31).i ρ=0))=true then(kE 2).i ρ else(E.v 26).i ρ)=_
  rw[v33,v34,v31,v26,hk]
  unfold Kz
  simp only[Bool.and_eq_true,decide_eq_true_eq]
 show Ending.returned ((SV.agg [vi 25 (-100000) 100000,.int .i64 ⟨(.ite (.bin .and (.bin .eq (.v 33) (.v 34)) (.bin .eq (.v 31) (.c 0))) (.ap 2 .nil) (.v 26)),(-4000),4000⟩,vi 27 0 3]).den ρ b')=_
 rw[show(SV.agg [vi 25 (-100000) 100000,.int .i64 ⟨(.ite (.bin .and (.bin .eq (.v 33) (.v 34)) (.bin .eq (.v 31) (.c 0))) (.ap 2 .nil) (.v 26)),(-4000),4000⟩,vi 27 0 3]).den ρ b'= .agg #[.int .i64 ((E.v 25).i ρ),.int .i64 ((E.ite (.bin .and (.bin .eq (.v 33) (.v 34)) (.bin .eq (.v 31) (.c 0))) (.ap 2 .nil) (.v 26)).i ρ),.int .i64 ((E.v 27).i ρ)]from by simp only[vi,zA,SV.denL,zh],v25,v27,hv]
theorem zes (g d:GD) (lo hi tu bu mo aim held law st is sp al pr want got:Int) (T:TdG g d lo hi tu bu mo aim held law st is sp al pr want got) (w:World) (o:g.ok w) (o':d.ok w):
  Calls Tryz.prog 87 #[.agg #[.int .i64 lo,.int .i64 hi,.int .i64 tu,.int .i64 bu,.int .i64 mo,.slice g.A g.n g.c,.slice d.A d.n d.c],.agg #[.int .i64 aim,.int .i64 held,.int .i64 law],.agg #[.int .i64 st,.int .i64 is,.int .i64 sp,.int .i64 al,.int .i64 pr],.int .i64 want,.int .i64 got] w fun e w'=>e= .returned (.tuple #[.agg #[.int .i64 aim,.int .i64 (Kz bu mo aim held is al want got),.int .i64 law],.nilIface])/\Below w.heap.size w w':=by
 obtain⟨ρ,J⟩:=zfE g d lo hi tu bu mo aim held law st is sp al pr want got
 obtain⟨a1,a2⟩:=YX J T o o' (· <0) ⟨fun _=>0,fun _=>0,fun _=>0⟩
 rw[<-a2]
 refine(zfz zmW rfl J.std.et (zfD J T o o') ⟨fun _=>0,fun _=>0,fun _=>0⟩ w (qU _ _ _ _) a1 (J.mem (zx o o'))).mono ?_
 rintro e w' ⟨⟨b',h1,_⟩,h2⟩
 refine⟨?_,h2⟩
 rw[h1]
 have v25:(E.v 25).i ρ=aim:=J.at_ 25 rfl
 have v26:(E.v 26).i ρ=held:=J.at_ 26 rfl
 have v27:(E.v 27).i ρ=law:=J.at_ 27 rfl
 have v31:(E.v 31).i ρ=al:=J.at_ 31 rfl
 have v33:(E.v 33).i ρ=want:=J.at_ 33 rfl
 have v34:(E.v 34).i ρ=got:=J.at_ 34 rfl
 have hk:=zep J
 have hv:(E.ite (.bin .or (.un .not (.bin .eq (.v 33) (.v 34))) (.un .not (.bin .eq (.v 31) (.c 0)))) (.v 26) (.ap 2 .nil)).i ρ=Kz bu mo aim held is al want got:=by
  show(if(!decide ((E.v 33).i ρ=(E.v 34).i ρ)|| !decide ((E.v 31).i ρ=0))=true then(E.v 26).i ρ else(kE 2).i ρ)=_
  rw[v33,v34,v31,v26,hk]
  unfold Kz
  by_cases h5:want=got<;>by_cases h6:al=0<;>simp[h5,h6]
 show Ending.returned ((SV.tup [.agg [vi 25 (-100000) 100000,.int .i64 ⟨(.ite (.bin .or (.un .not (.bin .eq (.v 33) (.v 34))) (.un .not (.bin .eq (.v 31) (.c 0)))) (.v 26) (.ap 2 .nil)),(-4000),4000⟩,vi 27 0 3],.nili]).den ρ b')=_
 rw[show(SV.tup [.agg [vi 25 (-100000) 100000,.int .i64 ⟨(.ite (.bin .or (.un .not (.bin .eq (.v 33) (.v 34))) (.un .not (.bin .eq (.v 31) (.c 0)))) (.v 26) (.ap 2 .nil)),(-4000),4000⟩,vi 27 0 3],.nili]).den ρ b'= .tuple #[.agg #[.int .i64 ((E.v 25).i ρ),.int .i64 ((E.ite (.bin .or (.un .not (.bin .eq (.v 33) (.v 34))) (.un .not (.bin .eq (.v 31) (.c 0)))) (.v 26) (.ap 2 .nil)).i ρ),.int .i64 ((E.v 27).i ρ)],.nilIface]from by simp only[vi,SV.den,SV.denL],v25,v27,hv]
end Go.Proofs.YtoakpnoajmngmaaGreatDoor.Sx
namespace Go.Proofs.YtoakpnoajmngmaaGreatDoor.Sx
open Go.RowKit
end Go.Proofs.YtoakpnoajmngmaaGreatDoor.Sx
namespace Go.Proofs.YtoakpnoajmngmaaGreatDoor
end Go.Proofs.YtoakpnoajmngmaaGreatDoor
namespace Go.Proofs.YtoakpnoajmngmaaGreatDoor.Sx
open Go.RowKit
end Go.Proofs.YtoakpnoajmngmaaGreatDoor.Sx
namespace Go.Proofs.YtoakpnoajmngmaaGreatDoor
end Go.Proofs.YtoakpnoajmngmaaGreatDoor
namespace Go.Proofs.YtoakpnoajmngmaaGreatDoor.Sx
open Go.RowKit
theorem Xc {p lo hi:Int} (h1:lo<=p) (h2:p<=hi):zm p lo hi=p:=by
 unfold zm
 rw[if_neg (by omega),if_neg (by omega)]
end Go.Proofs.YtoakpnoajmngmaaGreatDoor.Sx
namespace Go.Proofs.YtoakpnoajmngmaaGreatDoor.Sx
open Go.RowKit
theorem mJ {f:Nat->Int} {n:Nat} (h:∀i,i<n-> -1000<=f i/\f i<=1000):∀k:Nat,k<=n-> -1000*(k:Int)<=qg f k/\qg f k<=1000*(k:Int)
 |0,_=>by simp[qg]
 |k+1,hk=>by
  have h1:=mJ h k (by omega)
  have h2:=h k (by omega)
  simp only[qg]
  omega
set_option maxRecDepth 100000 in
set_option maxHeartbeats 1000000 in
theorem zet (g:GD) (hk:g.ks=[true,true,false]) (h0:0<g.n) (h4:g.n<=4) (hb:∀i,i<g.n-> -1000<=g.fi i 0/\g.fi i 0<=1000) (w:World) (o:g.ok w):
  Calls Tryz.prog 66 #[.slice g.A g.n g.c] w fun e w'=>e= .returned (.int .i64 (qg (fun i=>g.fi i 0) g.n))/\Below w.heap.size w w':=by
 obtain⟨bl,off,eA,hbl,hrow⟩:=QU o hk h0
 have HW:=Lib.hid hrow
 have HB:=Lib.hid hb
 have HT:=Lib.hid (mJ (f:=fun i=>g.fi i 0) hb)
 have HS:Hid (∀k,qg (fun i=>g.fi i 0) (k+1)=qg (fun i=>g.fi i 0) k+g.fi k 0):=fun _=>rfl
 rw[eA]
 clear o hrow hb hk eA
 generalize g.n=n at*
 generalize qg (fun i=>g.fi i 0)=F at*
 have hF0:=HT.out 0 (Nat.zero_le _)
 have hF00:F 0=0:=by omega
 go_enter Tryz.func66,Tryz.ntmps66
 go_wp2_with fail
 go_loopw [3,4] (fun v i wr=>∃k:Nat,k<=n/\i= .int .i64 k/\v= .int .i64 (F k)/\Below w.heap.size w wr) (fun _ i _=>n-(intOf i).toNat)
 case atStart=>exact⟨0,Nat.zero_le _,rfl,by rw[hF00],Below.refl _ _⟩
 case round=>
  obtain⟨k,hkn,rfl,rfl,hbw⟩:=hrel
  have hsz:=hbw.size
  by_cases hlt:k<n
  ·have c0:=(hbw.cell (p:=⟨bl,_,none⟩) hbl).trans (HW.out k hlt).1
   have hS:=Lib.hid (HS.out k)
   have t1:=HT.out k (by omega)
   have t2:=HB.out k hlt
   generalize F k=T at*
   generalize g.fi k 0=f0 at*
   have hwr:IntKind.wrap .i64 (T+f0)=T+f0:=IntWalk.i64_in _ ⟨by omega,by omega⟩
   go_wp2_with fail
   go_roundw
   case rel=>exact⟨k+1,by omega,by go_num,by rw[hS.out],hbw⟩
   case measure=>simp[intOf];omega
  ·have hkn:k=n:=by omega
   subst hkn
   go_wp2_with fail
   go_ret
   exact⟨rfl,hbw⟩
end Go.Proofs.YtoakpnoajmngmaaGreatDoor.Sx
namespace Go.Proofs.YtoakpnoajmngmaaGreatDoor.Sx
open Go.RowKit
set_option maxRecDepth 100000 in
set_option maxHeartbeats 1000000 in
theorem zpp (g:GD) (hk:g.ks=[true,true,false]) (h0:0<g.n) (h4:g.n<=4) (hb:∀i,i<g.n-> -1000<=g.fi i 0/\g.fi i 0<=1000) (w:World) (o:g.ok w):
  Calls Tryz.prog 81 #[.slice g.A g.n g.c] w fun e w'=>e= .returned (.int .i64 (qg (fun i=>g.fi i 0) g.n))/\Below w.heap.size w w':=by
 obtain⟨bl,off,eA,hbl,hrow⟩:=QU o hk h0
 have HW:=Lib.hid hrow
 have HB:=Lib.hid hb
 have HT:=Lib.hid (mJ (f:=fun i=>g.fi i 0) hb)
 have HS:Hid (∀k,qg (fun i=>g.fi i 0) (k+1)=qg (fun i=>g.fi i 0) k+g.fi k 0):=fun _=>rfl
 rw[eA]
 clear o hrow hb hk eA
 generalize g.n=n at*
 generalize qg (fun i=>g.fi i 0)=F at*
 have hF0:=HT.out 0 (Nat.zero_le _)
 have hF00:F 0=0:=by omega
 go_enter Tryz.func81,Tryz.ntmps81
 go_wp2_with fail
 go_loopw [3,8] (fun v i wr=>∃k:Nat,k<=n/\i= .int .i64 k/\v= .int .i64 (F k)/\Below w.heap.size w wr) (fun _ i _=>n-(intOf i).toNat)
 case atStart=>exact⟨0,Nat.zero_le _,rfl,by rw[hF00],Below.refl _ _⟩
 case round=>
  obtain⟨k,hkn,rfl,rfl,hbw⟩:=hrel
  have hsz:=hbw.size
  by_cases hlt:k<n
  ·have c0:wr.cell? ⟨bl,off+k*3,none⟩=_:=(hbw.cell (p:=⟨bl,_,none⟩) hbl).trans (HW.out k hlt).1
   have c1:wr.cell? ⟨bl,off+k*3+1,none⟩=_:=(hbw.cell (p:=⟨bl,_,none⟩) hbl).trans (HW.out k hlt).2.1
   have c2:wr.cell? ⟨bl,off+k*3+2,none⟩=_:=(hbw.cell (p:=⟨bl,_,none⟩) hbl).trans (HW.out k hlt).2.2
   have hS:=Lib.hid (HS.out k)
   have t1:=HT.out k (by omega)
   have t2:=HB.out k hlt
   generalize F k=T at*
   have hlb:bl<wr.heap.size:=by omega
   generalize g.fi k 0=f0 at*
   generalize g.fi k 1=f1 at*
   generalize g.fb k 2=fo at*
   have hwr:IntKind.wrap .i64 (T+f0)=T+f0:=IntWalk.i64_in _ ⟨by omega,by omega⟩
   go_wp2_with fail
   go_roundw
   case rel=>exact⟨k+1,by omega,by go_num,by rw[hS.out],gW⟩
   case measure=>simp[intOf];omega
  ·have hkn:k=n:=by omega
   subst hkn
   go_wp2_with fail
   go_ret
   exact⟨rfl,hbw⟩
end Go.Proofs.YtoakpnoajmngmaaGreatDoor.Sx
namespace Go.Proofs.YtoakpnoajmngmaaGreatDoor.Sx
open Go.RowKit
section
variable {g d:GD} {lo hi tu bu mo aim held law st is sp al pr:Int} {ρ:Env}
abbrev WtJ (g d:GD) (lo hi tu bu mo aim held law st is sp al pr:Int) (ρ:Env):Prop:=Jm (fun _ id l=>if id=900 then zm (l.getD 0 0) (l.getD 1 0) (l.getD 2 0)else if id=901 then jr (qa g.f d.f g.n sp) (l.getD 0 0) is else qa g.f d.f g.n sp) (fun _ _ _=>false) (jc g d) (fun n=>if n=100 then(g.n:Int)else if n=101 then(d.n:Int)else tdF lo hi tu bu mo aim held law st is sp al pr 0 0 n) (fun _=>false) ρ
abbrev WtG (g d:GD) (lo hi tu bu mo aim held law st is sp al pr:Int):Prop:=TdG g d lo hi tu bu mo aim held law st is sp al pr 0 0
theorem gu {w:World} (J:WtJ g d lo hi tu bu mo aim held law st is sp al pr ρ) (T:WtG g d lo hi tu bu mo aim held law st is sp al pr) (o:g.ok w) (o':d.ok w) (N:Nat->Prop) (b:Bd):((SV.agg jF).ok ρ N/\(SV.agg jp).ok ρ N/\(SV.agg gU).ok ρ N)/\(SV.agg jF).den ρ b= .agg #[.int .i64 lo,.int .i64 hi,.int .i64 tu,.int .i64 bu,.int .i64 mo,.slice g.A g.n g.c,.slice d.A d.n d.c]/\(SV.agg jp).den ρ b= .agg #[.int .i64 aim,.int .i64 held,.int .i64 law]/\(SV.agg gU).den ρ b= .agg #[.int .i64 st,.int .i64 is,.int .i64 sp,.int .i64 al,.int .i64 pr]/\(SV.agg [qS 0 100,qS 1 101]).den ρ b= .agg #[.slice g.A g.n g.c,.slice d.A d.n d.c]:=by
 have v20:(E.v 20).i ρ=lo:=J.at_ 20 rfl
 have v21:(E.v 21).i ρ=hi:=J.at_ 21 rfl
 have v22:(E.v 22).i ρ=tu:=J.at_ 22 rfl
 have v23:(E.v 23).i ρ=bu:=J.at_ 23 rfl
 have v24:(E.v 24).i ρ=mo:=J.at_ 24 rfl
 have v25:(E.v 25).i ρ=aim:=J.at_ 25 rfl
 have v26:(E.v 26).i ρ=held:=J.at_ 26 rfl
 have v27:(E.v 27).i ρ=law:=J.at_ 27 rfl
 have v28:(E.v 28).i ρ=st:=J.at_ 28 rfl
 have v29:(E.v 29).i ρ=is:=J.at_ 29 rfl
 have v30:(E.v 30).i ρ=sp:=J.at_ 30 rfl
 have v31:(E.v 31).i ρ=al:=J.at_ 31 rfl
 have v32:(E.v 32).i ρ=pr:=J.at_ 32 rfl
 obtain⟨⟨r1,r2,r3⟩,r4,r5,r6,hpl⟩:=zr T.ph
 have n1:=T.n
 have n2:=T.n'
 have t1:=T.a
 have t2:=T.hd
 have t3:=T.l
 have t4:=T.st
 have t5:=T.is
 have t6:=T.sp
 have t7:=T.al
 have t8:=T.pr
 obtain⟨p1,p2⟩:=J.std.osl (zx o o') (k:=0) (sh:=[.int .i64 (-9223372036854775808) 9223372036854775807]) (by show(jc g d 0).ks.map vN=_;rw[show jc g d 0=g from rfl,T.k];rfl) (by show(jc g d 0).ks.length<=100;rw[show jc g d 0=g from rfl,T.k];decide) (e:= .v 100) (lo:=0) (hi:=20) (J.at_ 100 rfl) (Int.le_refl _) (Int.natCast_nonneg _) (by show(g.n:Int)<=20;omega) N b
 obtain⟨p3,p4⟩:=J.std.osl (zx o o') (k:=1) (sh:=[.int .i64 (-9223372036854775808) 9223372036854775807]) (by show(jc g d 1).ks.map vN=_;rw[show jc g d 1=d from rfl,T.k'];rfl) (by show(jc g d 1).ks.length<=100;rw[show jc g d 1=d from rfl,T.k'];decide) (e:= .v 101) (lo:=0) (hi:=20) (J.at_ 101 rfl) (Int.le_refl _) (Int.natCast_nonneg _) (by show(d.n:Int)<=20;omega) N b
 refine⟨⟨?_,?_,?_⟩,?_,?_,?_,?_⟩
 ·simp only[jF,vi,SV.okL,SV.ok,R.ok,v20,v21,v22,v23,v24,and_true]
  refine⟨?_,?_,?_,?_,?_,p1,p3⟩<;>omega
 ·simp only[jp,vi,SV.okL,SV.ok,R.ok,v25,v26,v27,and_true]
  omega
 ·simp only[gU,vi,SV.okL,SV.ok,R.ok,v28,v29,v30,v31,v32,and_true]
  omega
 ·rw[show(SV.agg jF).den ρ b= .agg #[.int .i64 ((E.v 20).i ρ),.int .i64 ((E.v 21).i ρ),.int .i64 ((E.v 22).i ρ),.int .i64 ((E.v 23).i ρ),.int .i64 ((E.v 24).i ρ),(qS 0 100).den ρ b,(qS 1 101).den ρ b]from by simp only[jF,vi,SV.denL,zA,zh]]
  rw[show(qS 0 100).den ρ b= .slice g.A g.n g.c from p2,show(qS 1 101).den ρ b= .slice d.A d.n d.c from p4,v20,v21,v22,v23,v24]
 ·simp only[jp,vi,SV.denL,zA,zh,v25,v26,v27]
 ·simp only[gU,vi,SV.denL,zA,zh,v28,v29,v30,v31,v32]
 ·rw[show(SV.agg [qS 0 100,qS 1 101]).den ρ b= .agg #[(qS 0 100).den ρ b,(qS 1 101).den ρ b]from by simp only[SV.denL,zA]]
  rw[show(qS 0 100).den ρ b= .slice g.A g.n g.c from p2,show(qS 1 101).den ρ b= .slice d.A d.n d.c from p4]
theorem za2 {F:FuncId} (J:WtJ g d lo hi tu bu mo aim held law st is sp al pr ρ) (T:WtG g d lo hi tu bu mo aim held law st is sp al pr) (hc:∀(x lo hi:Int) (w:World),lo<=hi->Calls Tryz.prog F #[.int .i64 x,.int .i64 lo,.int .i64 hi] w fun e w'=>e= .returned (.int .i64 (zm x lo hi))/\w=w'):HOK Tryz.prog ρ (zb F XO):=by
 refine zo fun args gs v hp hg b base w N hok hm hbase=>?_
 unfold XO at hp
 split at hp
 ·rename_i x y z
  split at hp
  ·rename_i hcc
   cases hp
   obtain⟨⟨r1,r2,r3⟩,r4,r5,r6,hpl⟩:=zr T.ph
   have hle:y.e.i ρ<=z.e.i ρ:=by
    have v20:(E.v 20).i ρ=lo:=J.at_ 20 rfl
    have v21:(E.v 21).i ρ=hi:=J.at_ 21 rfl
    have v24:(E.v 24).i ρ=mo:=J.at_ 24 rfl
    have v24':(ze5 (.v 24)).i ρ=0-mo:=by
     show(0:Int)-(E.v 24).i ρ=_
     rw[v24]
    rw[Bool.or_eq_true]at hcc
    rcases hcc with h|h
    ·have h:=jb h
     simp only[List.cons.injEq,and_true]at h
     rw[h.1,h.2,v20,v21];exact r3
    ·have h:=jb h
     simp only[List.cons.injEq,and_true]at h
     rw[h.1,h.2,v24,v24'];omega
   rw[show(SV.denL ρ b [.int .i64 x,.int .i64 y,.int .i64 z]).toArray=#[.int .i64 (x.e.i ρ),.int .i64 (y.e.i ρ),.int .i64 (z.e.i ρ)]from by simp only[SV.denL,zh]]
   refine(hc _ _ _ w hle).mono ?_
   rintro e w' ⟨y1,rfl⟩
   have hb:=qQ (x.e.i ρ) hle
   obtain⟨_,⟨y2,y3⟩,⟨z2,z3⟩,_⟩:=hok
   have hv:(ap3 900 x.e y.e z.e).i ρ=zm (x.e.i ρ) (y.e.i ρ) (z.e.i ρ):=J.std.f (id:=900) rfl [x.e.i ρ,y.e.i ρ,z.e.i ρ]
   refine⟨by rw[y1,zh,hv],?_,Below.refl _ _⟩
   show y.lo<=(ap3 900 x.e y.e z.e).i ρ/\(ap3 900 x.e y.e z.e).i ρ<=z.hi
   rw[hv]
   omega
  ·cases hp
 ·cases hp
theorem zfF (J:WtJ g d lo hi tu bu mo aim held law st is sp al pr ρ) {l:List SV} (h:Qj l=true) (b:Bd):∃al',SV.denL ρ b l=[.int .i64 st,.int .i64 is,.int .i64 sp,.int .i64 al',.int .i64 pr]:=by
 unfold Qj at h
 split at h
 ·rename_i a1 a2 a3 a4 a5
  have h:=jb h
  simp only[List.cons.injEq,and_true]at h
  obtain⟨h1,h2,h3,h4⟩:=h
  have e0:(E.v 28).i ρ=st:=J.at_ 28 rfl
  have e1:(E.v 29).i ρ=is:=J.at_ 29 rfl
  have e2:(E.v 30).i ρ=sp:=J.at_ 30 rfl
  have e4:(E.v 32).i ρ=pr:=J.at_ 32 rfl
  exact⟨a4.e.i ρ,by simp only[SV.denL,zh,h1,h2,h3,h4,e0,e1,e2,e4]⟩
 ·cases h
theorem GQ (J:WtJ g d lo hi tu bu mo aim held law st is sp al pr ρ) {a:R} {gs:List E} {v:SV} (h:Qk a=some (gs,v)) {N:Nat->Prop} (ha:a.ok ρ):(-1000000<=a.e.i ρ/\a.e.i ρ<=1000000)/\(∀b,v.den ρ b= .int .i64 (jr (qa g.f d.f g.n sp) (a.e.i ρ) is))/\v.ok ρ N:=by
 unfold Qk at h
 split at h
 ·rename_i hc
  rw[Bool.and_eq_true]at hc
  have h1:=of_decide_eq_true hc.1
  have h2:=of_decide_eq_true hc.2
  cases h
  obtain⟨h3,h4⟩:=ha
  have hv:(ap1 901 a.e).i ρ=jr (qa g.f d.f g.n sp) (a.e.i ρ) is:=(J.std.f (id:=901) rfl [a.e.i ρ]).trans ((if_neg (by decide)).trans (if_pos rfl))
  have hb:=GP (qa g.f d.f g.n sp) (a.e.i ρ) is
  refine⟨by omega,fun b=>by rw[zh,hv],?_⟩
  show -2147483647<=(ap1 901 a.e).i ρ/\(ap1 901 a.e).i ρ<=2147483647
  rw[hv];exact hb
 ·cases h
theorem zpq {w0:World} (J:WtJ g d lo hi tu bu mo aim held law st is sp al pr ρ) (T:WtG g d lo hi tu bu mo aim held law st is sp al pr) (o:g.ok w0) (o':d.ok w0):HOK Tryz.prog ρ (zb 112 gV):=by
 obtain⟨⟨r1,r2,r3⟩,r4,r5,r6,hpl⟩:=zr T.ph
 have n1:=T.n
 have n2:=T.n'
 have t6:=T.sp
 refine zo fun args gs v hp hg b base w N hok hm hbase=>?_
 unfold gV at hp
 split at hp
 ·rename_i hs
  cases hp
  have:=SV.sameL_eq _ _ hs
  subst this
  obtain⟨_,q1,q2,q3,_⟩:=gu J T o o' N b
  rw[show(SV.denL ρ b [.agg jF,.agg jp,.agg gU]).toArray=#[.agg #[.int .i64 lo,.int .i64 hi,.int .i64 tu,.int .i64 bu,.int .i64 mo,.slice g.A g.n g.c,.slice d.A d.n d.c],.agg #[.int .i64 aim,.int .i64 held,.int .i64 law],.agg #[.int .i64 st,.int .i64 is,.int .i64 sp,.int .i64 al,.int .i64 pr]]from by simp only[SV.denL,q1,q2,q3]]
  refine(mH g d T.k T.k' T.n T.n' lo hi tu bu mo aim held law st is sp al pr T.B.1 w (J.std.row (zx o o') hm hbase 0) (J.std.row (zx o o') hm hbase 1) T.ph T.B.2.1 T.B.2.2).mono ?_
  rintro e w' ⟨y1,y2⟩
  exact⟨by rw[y1];rfl,trivial,y2⟩
 ·cases hp
theorem zpr {w0:World} (J:WtJ g d lo hi tu bu mo aim held law st is sp al pr ρ) (T:WtG g d lo hi tu bu mo aim held law st is sp al pr) (o:g.ok w0) (o':d.ok w0):HOK Tryz.prog ρ (zb 113 Ms):=by
 obtain⟨⟨r1,r2,r3⟩,r4,r5,r6,hpl⟩:=zr T.ph
 have n1:=T.n
 have n2:=T.n'
 have t6:=T.sp
 refine zo fun args gs v hp hg b base w N hok hm hbase=>?_
 unfold Ms at hp
 split at hp
 ·rename_i rule a ask
  split at hp
  ·rename_i hc
   rw[Bool.and_eq_true]at hc
   have hs:=SV.sameL_eq _ _ hc.1
   simp only[List.cons.injEq,and_true]at hs
   subst hs
   obtain⟨al',hd⟩:=zfF J hc.2 b
   obtain⟨_,q1,_⟩:=gu J T o o' N b
   obtain⟨ha,hv,ho⟩:=GQ J hp (N:=N) hok.2.1
   rw[show(SV.denL ρ b [.agg jF,.int .i64 a,.agg ask]).toArray=#[.agg #[.int .i64 lo,.int .i64 hi,.int .i64 tu,.int .i64 bu,.int .i64 mo,.slice g.A g.n g.c,.slice d.A d.n d.c],.int .i64 (a.e.i ρ),.agg #[.int .i64 st,.int .i64 is,.int .i64 sp,.int .i64 al',.int .i64 pr]]from by simp only[SV.denL,q1,zh];rw[zA,hd]]
   refine(GO g d T.k T.k' (by omega) (by omega) lo hi tu bu mo _ st is sp al' pr (by unfold B64;omega) ha hpl w (J.std.row (zx o o') hm hbase 0) (J.std.row (zx o o') hm hbase 1)).mono fun e w' h=>⟨by rw[h.1,hv],ho,h.2⟩
  ·cases hp
 ·cases hp
theorem zps {w0:World} (J:WtJ g d lo hi tu bu mo aim held law st is sp al pr ρ) (T:WtG g d lo hi tu bu mo aim held law st is sp al pr) (o:g.ok w0) (o':d.ok w0):HOK Tryz.prog ρ (zb 100 Yf):=by
 obtain⟨⟨r1,r2,r3⟩,r4,r5,r6,hpl⟩:=zr T.ph
 have n1:=T.n
 have n2:=T.n'
 have t6:=T.sp
 refine zo fun args gs v hp hg b base w N hok hm hbase=>?_
 unfold Yf at hp
 split at hp
 ·rename_i gg a ask
  split at hp
  ·rename_i hc
   rw[Bool.and_eq_true]at hc
   have hs:=E.same_eq hc.1
   obtain⟨al',hd⟩:=zfF J hc.2 b
   obtain⟨ha,hv,ho⟩:=GQ J hp (N:=N) hok.2.1
   have h5:(kE 5).i ρ=qa g.f d.f g.n sp:=J.std.f (id:=5) rfl []
   rw[show(SV.denL ρ b [.int .i64 gg,.int .i64 a,.agg ask]).toArray=#[.int .i64 (qa g.f d.f g.n sp),.int .i64 (a.e.i ρ),.agg #[.int .i64 st,.int .i64 is,.int .i64 sp,.int .i64 al',.int .i64 pr]]from by simp only[SV.denL,zh];rw[zA,hd,hs,h5]]
   exact(zaW _ _ st is sp al' pr w ha).mono fun e w' h=>⟨by rw[h.1,hv],ho,h.2⟩
  ·cases hp
 ·cases hp
theorem zpt {w0:World} (J:WtJ g d lo hi tu bu mo aim held law st is sp al pr ρ) (T:WtG g d lo hi tu bu mo aim held law st is sp al pr) (o:g.ok w0) (o':d.ok w0):HOK Tryz.prog ρ (zb 101 Mt):=by
 obtain⟨⟨r1,r2,r3⟩,r4,r5,r6,hpl⟩:=zr T.ph
 have n1:=T.n
 have n2:=T.n'
 have t6:=T.sp
 refine zo fun args gs v hp hg b base w N hok hm hbase=>?_
 unfold Mt at hp
 split at hp
 ·rename_i line x
  split at hp
  ·rename_i hc
   rw[Bool.and_eq_true]at hc
   have hs:=SV.sameL_eq _ _ hc.1
   simp only[List.cons.injEq,and_true]at hs
   subst hs
   cases hp
   have hx:=E.same_eq hc.2
   have v30:(E.v 30).i ρ=sp:=J.at_ 30 rfl
   obtain⟨_,_,_,_,q4⟩:=gu J T o o' N b
   have h5:(kE 5).i ρ=qa g.f d.f g.n sp:=J.std.f (id:=5) rfl []
   have hb:=X6 hpl sp
   rw[show(SV.denL ρ b [.agg [qS 0 100,qS 1 101],.int .i64 x]).toArray=#[.agg #[.slice g.A g.n g.c,.slice d.A d.n d.c],.int .i64 sp]from by simp only[SV.denL,q4,zh];rw[hx,v30]]
   refine(X5 g d T.k T.k' (by omega) (by omega) sp (by unfold B64;omega) hpl w (J.std.row (zx o o') hm hbase 0) (J.std.row (zx o o') hm hbase 1)).mono fun e w' h=>⟨by rw[h.1,kI,zh,h5],?_,h.2⟩
   show(-9223372036854775808:Int)<=(kE 5).i ρ/\(kE 5).i ρ<=9223372036854775807
   rw[h5];omega
  ·cases hp
 ·cases hp
theorem zfG {w0:World} (J:WtJ g d lo hi tu bu mo aim held law st is sp al pr ρ) (T:WtG g d lo hi tu bu mo aim held law st is sp al pr) (o:g.ok w0) (o':d.ok w0):HOK Tryz.prog ρ zgS:=
 zc (zpq J T o o') (zc (zpr J T o o') (zc (za2 J T fun x lo hi w _=>jP x lo hi _ w (fun _=>rfl)) (zc (zps J T o o') (zc (za2 J T fun x lo hi w hle=>jq x lo hi _ w hle (fun _=>rfl)) (zc (zpt J T o o') (zP _ _))))))
end
theorem zfH (a b x y:Int):(if(!(decide (a=b)))=true then x else y)=if a=b then y else x:=by
 by_cases h:a=b<;>simp[h]
theorem zmX (p:Prop) [Decidable p] (x y:Int):(if(decide p)=true then x else y)=if p then x else y:=by
 by_cases h:p<;>simp[h]
theorem GR (s m:Int) (hm:0<=m):(if s<0 then(0:Int)-((0-s)*m)/100 else(s*m)/100)=(s*m).tdiv 100:=by
 split
 ·rename_i h
  have h0:0<=(0-s)*m:=Int.mul_nonneg (by omega) hm
  have e:s*m= -((0-s)*m):=by rw[Int.zero_sub,Int.neg_mul,Int.neg_neg]
  rw[e,Int.neg_tdiv,Int.tdiv_eq_ediv_of_nonneg h0]
  omega
 ·rename_i h
  exact(Int.tdiv_eq_ediv_of_nonneg (Int.mul_nonneg (by omega) hm)).symm
theorem GS (g d:GD) (lo hi tu bu mo aim held law st is sp al pr:Int):∃ρ,WtJ g d lo hi tu bu mo aim held law st is sp al pr ρ:=Jm.start _ _ _ _ _
theorem ZG (g d:GD) (lo hi tu bu mo aim held law st is sp al pr:Int) (T:WtG g d lo hi tu bu mo aim held law st is sp al pr) (w:World) (o:g.ok w) (o':d.ok w):
  Calls Tryz.prog 82 #[.agg #[.int .i64 lo,.int .i64 hi,.int .i64 tu,.int .i64 bu,.int .i64 mo,.slice g.A g.n g.c,.slice d.A d.n d.c],.agg #[.int .i64 aim,.int .i64 held,.int .i64 law],.agg #[.int .i64 st,.int .i64 is,.int .i64 sp,.int .i64 al,.int .i64 pr]] w fun e w'=>e= .returned (.tuple #[.int .i64 (vl lo hi tu mo (qa g.f d.f g.n sp) aim held law st is al pr).1,.agg #[.int .i64 (vl lo hi tu mo (qa g.f d.f g.n sp) aim held law st is al pr).2.1,.int .i64 (vl lo hi tu mo (qa g.f d.f g.n sp) aim held law st is al pr).2.2,.int .i64 al],.nilIface])/\Below w.heap.size w w':=by
 obtain⟨ρ0,J0⟩:=GS g d lo hi tu bu mo aim held law st is sp al pr
 obtain⟨ρ,hs,hy,key⟩:=Qg zgX zb8 ρ0
 have J:=J0.same hs
 obtain⟨⟨q1,q2,q3⟩,d1,d2,d3,_⟩:=gu J T o o' (· <0) ⟨fun _=>0,fun _=>0,fun _=>0⟩
 have h:=key J.std.et (zfG J T o o') ⟨fun _=>0,fun _=>0,fun _=>0⟩ w ⟨q1,q2,q3,trivial⟩ (J.mem (zx o o'))
 rw[show(SV.denL ρ ⟨fun _=>0,fun _=>0,fun _=>0⟩ Zm).toArray=_ from by simp only[Zm,SV.denL,d1,d2,d3];rfl]at h
 refine h.mono ?_
 rintro e w' ⟨⟨b',y1⟩,y2⟩
 refine⟨?_,y2⟩
 have v20:ρ.iv 20=lo:=J.at_ 20 rfl
 have v21:ρ.iv 21=hi:=J.at_ 21 rfl
 have v22:ρ.iv 22=tu:=J.at_ 22 rfl
 have v24:ρ.iv 24=mo:=J.at_ 24 rfl
 have v25:ρ.iv 25=aim:=J.at_ 25 rfl
 have v26:ρ.iv 26=held:=J.at_ 26 rfl
 have v27:ρ.iv 27=law:=J.at_ 27 rfl
 have v28:ρ.iv 28=st:=J.at_ 28 rfl
 have v29:ρ.iv 29=is:=J.at_ 29 rfl
 have v31:ρ.iv 31=al:=J.at_ 31 rfl
 have v32:ρ.iv 32=pr:=J.at_ 32 rfl
 have f0:∀x y z,ρ.fn 900 [x,y,z]=zm x y z:=fun x y z=>J.std.f (id:=900) rfl [x,y,z]
 have f1:∀x,ρ.fn 901 [x]=jr (qa g.f d.f g.n sp) x is:=fun x=>(J.std.f (id:=901) rfl [x]).trans ((if_neg (by decide)).trans (if_pos rfl))
 rw[zb9]at hy
 obtain⟨z1,z2,z3,z4,_⟩:=hy
 have hr:zn1.den ρ b'= .tuple #[.int .i64 (zgT.i ρ),.agg #[.int .i64 (zgU.i ρ),.int .i64 (zgV.i ρ),.int .i64 (zgW.i ρ)],.nilIface]:=by
  unfold zn1
  simp only[SV.den,SV.denL]
 rw[y1,hr,zlm,zln,zlo,zlp]
 simp only[z4,z3,z2,z1,v20,v21,v22,v24,v25,v26,v27,v28,v29,v31,v32,f0,f1,zfH,zmX,Int.zero_sub]
 unfold vl
 by_cases a2:al=2
 ·simp only[a2,if_true]
 ·by_cases a3:al=3
  ·simp[a3]
  ·simp only[a2,a3,if_false]
theorem YY (g d:GD) (lo hi tu bu mo aim held law st is sp al pr:Int) (T:WtG g d lo hi tu bu mo aim held law st is sp al pr) (w:World) (o:g.ok w) (o':d.ok w):
  Calls Tryz.prog 67 #[.agg #[.int .i64 lo,.int .i64 hi,.int .i64 tu,.int .i64 bu,.int .i64 mo,.slice g.A g.n g.c,.slice d.A d.n d.c],.agg #[.int .i64 aim,.int .i64 held,.int .i64 law],.agg #[.int .i64 st,.int .i64 is,.int .i64 sp,.int .i64 al,.int .i64 pr]] w fun e w'=>e= .returned (.tuple #[.int .i64 (vl lo hi tu mo (qa g.f d.f g.n sp) aim held law st is al pr).1,.agg #[.int .i64 (vl lo hi tu mo (qa g.f d.f g.n sp) aim held law st is al pr).2.1,.int .i64 (vl lo hi tu mo (qa g.f d.f g.n sp) aim held law st is al pr).2.2,.int .i64 al]])/\Below w.heap.size w w':=by
 obtain⟨ρ0,J0⟩:=GS g d lo hi tu bu mo aim held law st is sp al pr
 obtain⟨ρ,hs,hy,key⟩:=Qg zg2 zca ρ0
 have J:=J0.same hs
 obtain⟨⟨q1,q2,q3⟩,d1,d2,d3,_⟩:=gu J T o o' (· <0) ⟨fun _=>0,fun _=>0,fun _=>0⟩
 have h:=key J.std.et (zfG J T o o') ⟨fun _=>0,fun _=>0,fun _=>0⟩ w ⟨q1,q2,q3,trivial⟩ (J.mem (zx o o'))
 rw[show(SV.denL ρ ⟨fun _=>0,fun _=>0,fun _=>0⟩ Zm).toArray=_ from by simp only[Zm,SV.denL,d1,d2,d3];rfl]at h
 refine h.mono ?_
 rintro e w' ⟨⟨b',y1⟩,y2⟩
 refine⟨?_,y2⟩
 obtain⟨⟨r1,r2,r3⟩,r4,r5,r6,hpl⟩:=zr T.ph
 have v20:ρ.iv 20=lo:=J.at_ 20 rfl
 have v21:ρ.iv 21=hi:=J.at_ 21 rfl
 have v22:ρ.iv 22=tu:=J.at_ 22 rfl
 have v24:ρ.iv 24=mo:=J.at_ 24 rfl
 have v25:ρ.iv 25=aim:=J.at_ 25 rfl
 have v26:ρ.iv 26=held:=J.at_ 26 rfl
 have v27:ρ.iv 27=law:=J.at_ 27 rfl
 have v28:ρ.iv 28=st:=J.at_ 28 rfl
 have v29:ρ.iv 29=is:=J.at_ 29 rfl
 have v31:ρ.iv 31=al:=J.at_ 31 rfl
 have v32:ρ.iv 32=pr:=J.at_ 32 rfl
 have f0:∀x y z,ρ.fn 900 [x,y,z]=zm x y z:=fun x y z=>J.std.f (id:=900) rfl [x,y,z]
 have f1:∀x,ρ.fn 901 [x]=jr (qa g.f d.f g.n sp) x is:=fun x=>(J.std.f (id:=901) rfl [x]).trans ((if_neg (by decide)).trans (if_pos rfl))
 have hm:=GR st mo (by omega)
 have ht:=GR st tu (by omega)
 rw[zcb]at hy
 obtain⟨z1,z2,z3,z4,z5,z6,_⟩:=hy
 have hr:zn3.den ρ b'= .tuple #[.int .i64 (zgY.i ρ),.agg #[.int .i64 (zgZ.i ρ),.int .i64 (zg0.i ρ),.int .i64 (zg1.i ρ)]]:=by
  unfold zn3
  simp only[SV.den,SV.denL]
 rw[y1,hr,zlq,zlr,zls,zlt]
 simp only[z6,z5,z4,z3,z2,z1,v20,v21,v22,v24,v25,v26,v27,v28,v29,v31,v32,f0,f1,zfH,zmX,hm,ht]
 simp only[Int.zero_sub]
 unfold vl
 by_cases a2:al=2
 ·simp only[a2,if_true]
 ·by_cases a3:al=3
  ·simp[a3]
  ·simp only[a2,a3,if_false]
end Go.Proofs.YtoakpnoajmngmaaGreatDoor.Sx
