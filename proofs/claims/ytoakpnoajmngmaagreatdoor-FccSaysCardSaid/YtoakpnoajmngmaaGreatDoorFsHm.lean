import Derived.Test.YtoakpnoajmngmaaGreatDoorWant
import Derived.Test.YtoakpnoajmngmaaGreatDoorErrAs
import Derived.Test.YtoakpnoajmngmaaGreatDoorSlots
import Derived.Test.YtoakpnoajmngmaaGreatDoorLineA
set_option linter.unusedVariables false
set_option linter.unusedSimpArgs false
namespace Go.Proofs.YtoakpnoajmngmaaGreatDoor.Sx
open Go.RowKit
def ErrLaid (w:World):Prop:=w.cell? ⟨0,0,none⟩=some (.iface 252 (.agg #[.pointer (some ⟨1,51,none⟩)]))
theorem ErrLaid.lt {w:World} (h:ErrLaid w):0<w.heap.size:=by
 rcases Nat.eq_zero_or_pos w.heap.size with h0|h1
 ·simp[ErrLaid,World.cell?,h0]at h
 ·exact h1
theorem ErrLaid.below {w w':World} (h:ErrLaid w) (hb:Below w.heap.size w w'):ErrLaid w':=(hb.cell (p:=⟨0,0,none⟩) h.lt).trans h
set_option maxRecDepth 100000 in
set_option maxHeartbeats 8000000 in
theorem zbS (g d:GD) (hk:g.ks=[true]) (hk':d.ks=[true]) (hn:g.n<=20) (hn':d.n<=20) (a0 a1 a2 a3 a4 a5 a6 a7 a8 a9 a10 a11 lo hi tu bu mo aim held law:Int) (b20:B64 lo) (b21:B64 hi) (b22:B64 tu) (b23:B64 bu) (b24:B64 mo) (b25:B64 aim) (b26:B64 held) (b27:B64 law) (w:World) (o:g.ok w) (o':d.ok w)
  (hph:zK lo hi tu bu mo (zC g.f g.n d.f d.n) (zX d.f d.n)=0) (hg:ErrLaid w):
  Calls Tryz.prog 47 #[.agg #[.int .i64 a0,.int .i64 a1,.int .i64 a2,.int .i64 a3,.int .i64 a4,.int .i64 a5,.int .i64 a6,.int .i64 a7,.int .i64 a8,.int .i64 a9,.int .i64 a10,.int .i64 a11,.int .i64 lo,.int .i64 hi,.int .i64 tu,.int .i64 bu,.int .i64 mo,.slice g.A g.n g.c,.slice d.A d.n d.c],.agg #[.int .i64 aim,.int .i64 held,.int .i64 law]] w fun e w'=>e= .returned (.bool (decide (Q9 lo hi mo aim held law)))/\Below w.heap.size w w':=by
 obtain⟨⟨r1,r2,r3⟩,r4,r5,r6,hpl⟩:=zr hph
 have b0:B64 0:=by unfold B64;omega
 by_cases hs:Q9 lo hi mo aim held law
 ·rw[decide_eq_true hs]
  have HW:Hid (∀w1,Below w.heap.size w w1->Calls Tryz.prog 82 #[.agg #[.int .i64 lo,.int .i64 hi,.int .i64 tu,.int .i64 bu,.int .i64 mo,.slice g.A g.n g.c,.slice d.A d.n d.c],.agg #[.int .i64 aim,.int .i64 held,.int .i64 law],.agg #[.int .i64 0,.int .i64 0,.int .i64 0,.int .i64 0,.int .i64 0]] w1 fun e w'=>(∃x y z u,e= .returned (.tuple #[.int .i64 x,.agg #[.int .i64 y,.int .i64 z,.int .i64 u],.nilIface]))/\Below w1.heap.size w1 w'):=fun w1 hb=>(ZG g d lo hi tu bu mo aim held law 0 0 0 0 0 ⟨hk,hk',hn,hn',hph,⟨hs.1,hs.2.1⟩,⟨hs.2.2.1,hs.2.2.2.1⟩,hs.2.2.2.2,by omega,by omega,by omega,by omega,by omega,by omega,by omega⟩ w1 (qE o hb) (qE o' hb)).mono fun e w' hh=>⟨⟨_,_,_,_,hh.1⟩,hh.2⟩
  clear o o' hph hk hk' hpl hs hg
  generalize g.A=gA at*
  generalize g.n=gn at*
  generalize g.c=gc at*
  generalize d.A=dA at*
  generalize d.n=dn at*
  generalize d.c=dc at*
  go_enter Tryz.func47,Tryz.ntmps47
  go_wp2_with (first|(go_at_call 82;((with_reducible refine(HW.out _ (gW)).mono ?_);rintro e w4 ⟨⟨x,y,z,u,rfl⟩,hb4⟩;have hz4:=hb4.size;simp only[World.size_alloc]at hz4))|(go_at_call 92;((with_reducible refine(ziN _ _).mono ?_);rintro e w5 ⟨rfl,rfl⟩))|fail)
  go_ret
  exact⟨rfl,gW⟩
 ·rw[decide_eq_false hs]
  have HW:Hid (∀w1,Below w.heap.size w w1->Calls Tryz.prog 82 #[.agg #[.int .i64 lo,.int .i64 hi,.int .i64 tu,.int .i64 bu,.int .i64 mo,.slice g.A g.n g.c,.slice d.A d.n d.c],.agg #[.int .i64 aim,.int .i64 held,.int .i64 law],.agg #[.int .i64 0,.int .i64 0,.int .i64 0,.int .i64 0,.int .i64 0]] w1 fun e w'=>e= .returned (.tuple #[.int .i64 0,.agg #[.int .i64 0,.int .i64 0,.int .i64 0],.iface 44 (.int .i64 3)])/\Below w1.heap.size w1 w'):=fun w1 hb=>VV g d hk hk' hn hn' lo hi tu bu mo aim held law 0 0 0 0 0 ⟨b25,b26,b27,b0,b0,b0,b0,b0⟩ w1 (qE o hb) (qE o' hb) hph hs
  have HG:Hid (∀w1,Below w.heap.size w w1->w1.cell? ⟨0,0,none⟩=some (.iface 252 (.agg #[.pointer (some ⟨1,51,none⟩)]))):=fun w1 hb=>hg.below hb
  clear o o' hph hk hk' hpl hs hg
  generalize g.A=gA at*
  generalize g.n=gn at*
  generalize g.c=gc at*
  generalize d.A=dA at*
  generalize d.n=dn at*
  generalize d.c=dc at*
  go_enter Tryz.func47,Tryz.ntmps47
  go_wp2_with (first|(go_at_call 82;go_loud ((with_reducible refine(HW.out _ (gW)).mono ?_);rintro e w4 ⟨rfl,hb4⟩;have hz4:=hb4.size;simp only[World.size_alloc]at hz4;have q1:=hb4.cell (p:=⟨w.heap.size+1+1,0,none⟩) gO;have q2:=hb4.frozen (p:=⟨w.heap.size+1+1,0,none⟩) gO;have q4:w4.cell? ⟨w.heap.size+1+1,0,none⟩=some (.int .i64 0):=q1.trans (j4 (by simp) rfl);have q5:w4.frozen? ⟨w.heap.size+1+1,0,none⟩=false:=q2.trans (yZ (by simp));clear q1 q2;have q3:w.heap.size+1+1<w4.heap.size:=by omega))|(go_at_call 92;go_loud ((with_reducible refine(ziO 3 ⟨w.heap.size+1+1,0,none⟩ (.int .i64 0) _ (HG.out _ (gW)) (by exact(World.cell?_alloc_lt w4 _ ⟨w.heap.size+1+1,0,none⟩ q3).trans q4) (by exact(World.frozen?_alloc_old w4 _ ⟨w.heap.size+1+1,0,none⟩ (Nat.ne_of_lt q3)).trans q5)).mono ?_);rintro e w5 ⟨rfl,rfl⟩))|fail)
  go_ret
  exact⟨rfl,gW⟩
def jZ:Value:= .iface 252 (.agg #[.pointer (some ⟨1,51,none⟩)])
theorem K8 {ρ:Env} {base:Nat->Prop} {w:World} (hm:Mem ρ base w) (h1:ρ.mn 1 0=[jZ]) (h2:(ρ.es 1 0).1=some ⟨0,0,none⟩):ErrLaid w:=by
 obtain⟨q,off,e1,e2,e3⟩:=hm.2 1 0 0 jZ (by rw[h1];rfl)
 rw[h2]at e1
 cases e1
 exact e3
end Go.Proofs.YtoakpnoajmngmaaGreatDoor.Sx
namespace Go.Proofs.YtoakpnoajmngmaaGreatDoor.Sx
open Go.RowKit
theorem Vh (g d:GD) (lo hi tu bu mo aim held law:Int) (k:g.ks=[true]) (k':d.ks=[true]) (n:g.n<=20) (n':d.n<=20) (b1:B64 aim) (b2:B64 held) (b3:B64 law) (w:World) (o:g.ok w) (o':d.ok w)
  (hph:zK lo hi tu bu mo (zC g.f g.n d.f d.n) (zX d.f d.n)=0):
  Calls Tryz.prog 22 #[.agg #[.int .i64 lo,.int .i64 hi,.int .i64 tu,.int .i64 bu,.int .i64 mo,.slice g.A g.n g.c,.slice d.A d.n d.c],.agg #[.int .i64 aim,.int .i64 held,.int .i64 law],.agg #[.int .i64 0,.int .i64 0,.int .i64 0,.int .i64 0,.int .i64 0]] w fun e w'=>e= .returned (.int .i64 (if Q9 lo hi mo aim held law then 0 else 3))/\Below w.heap.size w w':=by
 obtain⟨ρ0,J0⟩:∃ρ,HmJ g d lo hi tu bu mo aim held law ρ:=Jm.start _ _ _ _ _
 obtain⟨ρ,hs,hy,key⟩:=Qg zli zgL ρ0
 have J:=J0.same hs
 have v20:ρ.iv 20=lo:=J.at_ 20 rfl
 have v21:ρ.iv 21=hi:=J.at_ 21 rfl
 have v24:ρ.iv 24=mo:=J.at_ 24 rfl
 have v25:ρ.iv 25=aim:=J.at_ 25 rfl
 have v26:ρ.iv 26=held:=J.at_ 26 rfl
 have v27:ρ.iv 27=law:=J.at_ 27 rfl
 obtain⟨⟨r1,r2,r3⟩,r4,r5,r6,hpl⟩:=zr hph
 have hsum:HOK Tryz.prog ρ zlb:=by
  refine zc (zo fun args gs v hp hg b base w1 N hok hm hbase=>?_) (zP _ _)
  unfold Mf at hp
  split at hp
  ·rename_i hsm
   cases hp
   have:=SV.sameL_eq _ _ hsm
   subst this
   obtain⟨q1,q2⟩:=Q8 J k k' n n' hph o o' N b
   rw[show(SV.denL ρ b [yn]).toArray=#[.agg #[.int .i64 lo,.int .i64 hi,.int .i64 tu,.int .i64 bu,.int .i64 mo,.slice g.A g.n g.c,.slice d.A d.n d.c]]from by simp only[SV.denL,q2]]
   refine(wX g d k k' (by omega) (by omega) lo hi tu bu mo (by unfold B64;omega) (by unfold B64;omega) (by unfold B64;omega) (by unfold B64;omega) (by unfold B64;omega) w1 (J.std.row (zx o o') hm hbase 0) (J.std.row (zx o o') hm hbase 1)).mono ?_
   rintro e w' ⟨y1,y2⟩
   refine⟨?_,⟨Int.le_refl _,Int.le_refl _⟩,y2⟩
   rw[y1,hph]
   rfl
  ·cases hp
 obtain⟨q1,q2⟩:=Q8 J k k' n n' hph o o' (· <0) ⟨fun _=>0,fun _=>0,fun _=>0⟩
 have h:=key J.std.et hsum ⟨fun _=>0,fun _=>0,fun _=>0⟩ w ⟨q1,(by
  simp only[zy,SV.okL,SV.ok,R.ok,E.i,and_true,v25,v26,v27]
  exact⟨b1,b2,b3⟩),(by
  simp only[zI,SV.okL,SV.ok,R.ok,E.i,and_true]
  omega),trivial⟩ (J.mem (zx o o'))
 rw[show(SV.denL ρ ⟨fun _=>0,fun _=>0,fun _=>0⟩ Me).toArray=#[.agg #[.int .i64 lo,.int .i64 hi,.int .i64 tu,.int .i64 bu,.int .i64 mo,.slice g.A g.n g.c,.slice d.A d.n d.c],.agg #[.int .i64 aim,.int .i64 held,.int .i64 law],.agg #[.int .i64 0,.int .i64 0,.int .i64 0,.int .i64 0,.int .i64 0]]from by simp only[Me,SV.denL,q2,zA,zy,zI,zh,E.i,v25,v26,v27]]at h
 refine h.mono ?_
 rintro e w' ⟨⟨b',y1⟩,y2⟩
 refine⟨?_,y2⟩
 have hr:hmR.den ρ b'= .int .i64 (hmE.i ρ):=by unfold hmR;rw[zh];rfl
 rw[zgM]at hy
 obtain⟨z1,z2,_⟩:=hy
 rw[v20,v21,v24,v25,v26,v27]at z1
 rw[z1]at z2
 rw[y1,hr,zqs,z2]
 have hiff:(decide (lo<=aim)&&decide (aim<=hi)&&(decide ((0:Int)-mo<=held)&&decide (held<=mo))&&(decide (0<=law)&&decide (law<=3)))=decide (Q9 lo hi mo aim held law):=by
  have hd:decide (Q9 lo hi mo aim held law)=true↔Q9 lo hi mo aim held law:=decide_eq_true_iff
  refine Bool.eq_iff_iff.2 (Iff.trans ?_ hd.symm)
  simp only[Bool.and_eq_true,decide_eq_true_eq]
  unfold Q9
  omega
 rw[hiff]
 by_cases hp:Q9 lo hi mo aim held law<;>simp[hp]
end Go.Proofs.YtoakpnoajmngmaaGreatDoor.Sx
