import Derived.Test.YtoakpnoajmngmaaGreatDoorTopSharePl
import Derived.Deep.Cut
import Derived.Deep.CutRange
import Derived.Outline
import Derived.Deep.RegionHeld3
set_option linter.unusedVariables false
set_option linter.unusedSimpArgs false
namespace Go.Proofs.YtoakpnoajmngmaaGreatDoor.Sx
open Go.RowKit
theorem MQ (g:GD) (hk:g.ks=[true,true,false]) (t r s c:Int) (w:World) (o:g.ok w) (hz:qj g t r s c=0):
  Calls Tryz.prog 115 #[.agg #[.int .i64 t,.int .i64 r,.int .i64 s,.int .i64 c],.slice g.A g.n g.c] w fun e w'=>(∃b cap,e= .returned (.tuple #[.slice (some ⟨b,0,none⟩) g.n cap,.nilIface])/\qO w' b g.n (wy g t r)/\w.heap.size<=b)/\Below w.heap.size w w':=by
 obtain⟨⟨a1,a2,a3,a4,a5,a6,a7,a8⟩,b1,b2,b3⟩:=xJ _ hz
 refine(VK g hk b1 b2 t r s c w o (jQ ⟨a1,a2,a3,a4,a5,a6,a7,a8⟩)).mono ?_
 rintro e w' ⟨(⟨_,v,h,hl,hv⟩|⟨h,_⟩),hb⟩
 ·rcases hv with⟨_,h0⟩|⟨q,cap,cur,rfl,h1,h2,h3,h4,h5,h6⟩
  ·omega
  ·refine⟨⟨q,cap,h,⟨?_,fun i hi=>?_⟩,h1⟩,hb⟩
   ·rcases Nat.lt_or_ge q w'.heap.size with h|h
    ·exact h
    ·rw[Array.getElem?_eq_none h]at h2;cases h2
   ·have e1:cur[i]? =some (vO (wy g t r i)):=by
     have e2:(cur.toList.take (g.n*1))[i]? =cur.toList[i]? :=List.getElem?_take_of_lt (by omega)
     rw[h6]at e2
     unfold ziL at e2
     rw[List.getElem?_map,List.getElem?_range hi]at e2
     rw[<-Array.getElem?_toList,<-e2]
     rfl
    simp[World.cell?,h2,e1]
 ·exact absurd hz h
theorem zff {g:GD} {w w':World} (h:g.ok w) (hb:Below w.heap.size w w'):g.ok w':=
 ⟨h.n,fun i j hi hj=>by
  obtain⟨bl,off,e1,e2,e3⟩:=h.cell i j hi hj
  exact⟨bl,off,e1,Nat.lt_of_lt_of_le e2 hb.size,(hb.cell (p:=⟨bl,_,none⟩) e2).trans e3⟩,h.b64⟩
def kR (ps:Nat->Zr) (L l0:Int):Nat->Int
 |0=>l0
 |k+1=>if 0<kR ps L l0 k/\pat (ps k) L<pat (ps k) (L+1)then kR ps L l0 k-1 else kR ps L l0 k
def MR (ps:Nat->Zr) (L l0:Int) (k:Nat):Int:=
 if 0<kR ps L l0 k/\pat (ps k) L<pat (ps k) (L+1)then pat (ps k) L+1 else pat (ps k) L
theorem X9 (ps:Nat->Zr) (L l0:Int) (h: -100000<=l0/\l0<=100000):∀k,-100000<=kR ps L l0 k/\kR ps L l0 k<=100000
 |0=>h
 |k+1=>by
  have:=X9 ps L l0 h k
  simp only[kR]
  split<;>omega
theorem Ga (tot:Int->Int) (sum lo:Int):∀k:Nat,lo<=Qv tot sum lo k/\Qv tot sum lo k<=lo+k
 |0=>by simp[Qv]
 |k+1=>by
  have:=Ga tot sum lo k
  simp only[Qv]
  split<;>(push_cast;omega)
theorem zhs (tot:Int->Int) (sum:Int) {m:Int} (h:0<=m): -m<=zbo tot sum m/\zbo tot sum m<=m:=by
 have:=Ga tot sum (-m) (2*m).toNat
 unfold zbo
 omega
theorem Gb {x a b:Int} (ha: -4000<=a/\a<=4000) (hb: -4000<=b/\b<=4000): -4000<=zm x a b/\zm x a b<=4000:=by
 unfold zm
 (repeat' split)<;>omega
theorem Vu (x lo hi m:Int) (w:World) (h:Unit->m=zm x lo hi):Calls Tryz.prog 80 #[.int .i64 x,.int .i64 lo,.int .i64 hi] w fun e w'=>e= .returned (.int .i64 m)/\w=w':=by
 rw[h ()];exact kL x lo hi w
theorem Vv (m b c n:Nat) (ps:Nat->Zr) (sum most L:Int) (w:World) (hn:n<=1000) (h0:0<=most) (h1:most<=1000) (hf:∀k,jt (ps k)) (hc:qO w b n ps) (hl:m<w.heap.size) (hm:w.cell? ⟨m,0,none⟩=some (.slice (some ⟨b,0,none⟩) n c)) (h:Unit->L=zbo (fun x=>yO ps x n) sum most):
  Calls Tryz.prog 117 #[.int .i64 sum,.int .i64 most,.func (.func 118) #[] #[.pointer (some ⟨m,0,none⟩)]] w fun e w'=>e= .returned (.int .i64 L)/\Below w.heap.size w w':=by
 rw[h ()];exact zhr m b c n ps sum most w hn h0 h1 hf hc hl hm
theorem JK (x v:Int) (w:World) (h:pat none x=v):Calls Tryz.prog 193 #[.agg #[],.int .i64 x] w fun e w'=>e= .returned (.int .i64 v)/\Below w.heap.size w w':=by
 rw[<-h];exact zfd x w
theorem JL (lo hi x v:Int) (w:World) (h:pat (some (lo,hi)) x=v):Calls Tryz.prog 194 #[.agg #[.int .i64 lo,.int .i64 hi],.int .i64 x] w fun e w'=>e= .returned (.int .i64 v)/\Below w.heap.size w w':=by
 rw[<-h];exact zfe lo hi x w
theorem Yi {q:Nat->Int} {k:Nat} {V:Int} (h:q k=V) (j:Nat):(if j=k then Value.int .i64 V else .int .i64 (if j<k then q j else 0))= .int .i64 (if j<k+1 then q j else 0):=by
 by_cases e:j=k
 ·subst e;rw[if_pos rfl,if_pos (Nat.lt_succ_self _),h]
 ·rw[if_neg e]
  by_cases e2:j<k
  ·rw[if_pos e2,if_pos (by omega)]
  ·rw[if_neg e2,if_neg (by omega)]
theorem zc3 {q:Nat->Int} {k:Nat} {V:Int} {v:Value} (h:q k=V) (j:Nat):(if j=k then Value.int .i64 V else if j=k then v else .int .i64 (if j<k then q j else 0))= .int .i64 (if j<k+1 then q j else 0):=by
 rw[<-Yi h j]
 by_cases e:j=k
 ·rw[if_pos e,if_pos e]
 ·rw[if_neg e,if_neg e,if_neg e]
theorem MS:(Tryz.prog.info? 3).map (fun i=>(i.zero,i.size,i.bytes))=some (some (.int .i64 0),1,8):=by kernel_rfl
set_option maxRecDepth 100000 in
set_option maxHeartbeats 1000000 in
theorem Vw (g:GD) (hk:g.ks=[true,true,false]) (t r s c x:Int) (w:World) (o:g.ok w) (hz:qj g t r s c=0) (bx:B64 x) (ps:Nat->Zr) (hps:wy g t r=ps) (X L:Int) (hX:X=zm x (yO ps (-t) g.n) (yO ps t g.n)) (hL:L=zbo (fun y=>yO ps y g.n) X t):
  Calls Tryz.prog 85 #[.agg #[.int .i64 t,.int .i64 r,.int .i64 s,.int .i64 c],.slice g.A g.n g.c,.int .i64 x] w fun e w'=>
   (∃b,e= .returned (.tuple #[.slice (some ⟨b,0,none⟩) g.n g.n,.nilIface])/\w.heap.size<=b/\w'.rowIs b 3 g.n (fun k=> .int .i64 (MR ps L (X-yO ps L g.n) k)))/\Below w.heap.size w w':=by
 obtain⟨⟨a1,a2,a3,a4,a5,a6,a7,a8⟩,b1,b2,b3⟩:=xJ _ hz
 have hf:∀k,jt (ps k):=fun k=>hps▸zaH b3 k
 have HP:=Lib.hid fun(w:World) (o:g.ok w)=>MQ g hk t r s c w o hz
 have HO:=Lib.hid fun(o':Obj)=>zff o (w':=w.alloc o') (Below.alloc (Below.refl _ _) (Nat.le_refl _) _)
 rw[hps]at HP
 clear hps hk o hz b3
 have hwn:IntKind.wrap .i64 (-t)= -t:=IntWalk.i64_in _ ⟨by omega,by omega⟩
 have q1:=wW hf (-t) g.n
 have q2:=wW hf t g.n
 have q3:=wW hf L g.n
 have x1: -4000<=X/\X<=4000:=by rw[hX];exact Gb (by omega) (by omega)
 have l1: -t<=L/\L<=t:=by rw[hL];exact zhs _ _ (by omega)
 have hwL:IntKind.wrap .i64 (L+1)=L+1:=IntWalk.i64_in _ ⟨by omega,by omega⟩
 have hT: -4000<=yO ps L g.n/\yO ps L g.n<=4000:=by omega
 have HF:=Lib.hid hf
 have HX:=Lib.hid hX
 have HL:=Lib.hid hL
 clear hf hX hL q1 q2 q3
 generalize hn:g.n=n at*
 clear hn
 go_enter Tryz.func85,Tryz.ntmps85
 go_upto_region 4 with(go_at_call 115;((with_reducible refine(HP.out _ (HO.out _)).mono ?_);rintro e w1 ⟨⟨bb,cap,rfl,hpc,hbb⟩,hb1⟩;have hz1:=hb1.size;simp only[World.size_alloc]at hz1 hbb))
 refine zT (fun ω=>Below w.heap.size w ω/\ω.cell? ⟨w.heap.size,0,none⟩=some (.int .i64 t)/\ω.cell? ⟨w1.heap.size,0,none⟩=some (.slice (some ⟨bb,0,none⟩) n cap)/\w1.heap.size<ω.heap.size/\qO ω bb n ps) ⟨gW,zn ((hb1.cell (p:=⟨w.heap.size,0,none⟩) (by simp)).trans (World.cell?_alloc_mark w _ _ _ 0)),j4 rfl rfl,by simp,hpc.below (Below.alloc (Below.refl _ _) (Nat.le_refl _) _)⟩ ?_
 rintro w2 ⟨hB2,hR0,hM,hml,hC⟩
 clear hb1 hpc
 have hwm:w.heap.size<w1.heap.size:=by omega
 generalize w1.heap.size=m at*
 have hw2:w.heap.size<w2.heap.size:=by omega
 have HC:=Lib.hid hC
 have hbl:=hC.1
 clear hC
 go_region_held3 (fun ω=>Below w2.heap.size w2 ω/\ω.cell? ⟨w.heap.size,0,none⟩=some (.int .i64 t)/\ω.cell? ⟨m,0,none⟩=some (.slice (some ⟨bb,0,none⟩) n cap)) (refine⟨gW,?_,?_⟩<;>(repeat'(first|(with_reducible assumption)|(with_reducible refine zn ?_)|(with_reducible refine zt ?_)|(with_reducible refine zw ?_)|(with_reducible refine za (by assumption) ?_ ?_)|omega|(simp;done)|(simp;omega)))) (first|(go_at_call 116;((with_reducible refine(Yh _ _ _ _ _ _ (by omega) HF.out (HC.out.below (gW))).mono ?_);rintro e w3 ⟨rfl,hb3⟩;have hz3:=hb3.size;(repeat(first|simp only[World.size_alloc]at hz3|simp only[World.size_drew]at hz3|simp only[World.size_setCell]at hz3))))|(go_at_call 80;((with_reducible refine(Vu _ _ _ X _ (fun _=>HX.out)).mono ?_);rintro e w3 ⟨rfl,rfl⟩)))
 have hH:Below w2.heap.size w2 w3/\w3.cell? ⟨w.heap.size,0,none⟩=some (.int .i64 t)/\w3.cell? ⟨m,0,none⟩=some (.slice (some ⟨bb,0,none⟩) n cap):=by assumption
 refine kz (fun ω=>Below w.heap.size w ω/\ω.cell? ⟨w.heap.size,0,none⟩=some (.int .i64 t)/\ω.cell? ⟨m,0,none⟩=some (.slice (some ⟨bb,0,none⟩) n cap)/\m<ω.heap.size/\qO ω bb n ps) ⟨hB2.trans (hH.1.mono (by omega)),hH.2.1,hH.2.2,Nat.lt_of_lt_of_le hml hH.1.size,HC.out.below hH.1⟩ ?_
 rintro w4 ⟨hB4,hR4,hM4,hml4,hC4⟩
 clear hb3 hH
 rename_i hHeld
 clear hHeld hB2 hR0 hM hml HC
 have HC:=Lib.hid hC4
 have hbl4:=hC4.1
 clear hC4
 go_upto_region 7 with(first|(go_at_call 117;((with_reducible refine(Vv _ _ _ _ _ _ _ L _ (by omega) (by omega) (by omega) HF.out HC.out hml4 hM4 (fun _=>HL.out)).mono ?_);rintro e w5 ⟨rfl,hb5⟩;have hz5:=hb5.size;have hM5:=(hb5.cell (p:=⟨m,0,none⟩) hml4).trans hM4;have hml5:m<w5.heap.size:=by omega))|(go_at_call 116;((with_reducible refine(Yh _ _ _ _ _ _ (by omega) HF.out (HC.out.below hb5)).mono ?_);rintro e w6 ⟨rfl,hb6⟩;have hz6:=hb6.size;have hM6:=(hb6.cell (p:=⟨m,0,none⟩) hml5).trans hM5;have hml6:m<w6.heap.size:=by omega)))
 have hmk:=run_make_row' (P:=Tryz.prog) 22 3 (.int .i64 0) 8 Tryz.underlying22 MS rfl .i64 .i64 n (by omega) (by omega)
 go_upto_region 8 with fail
 clear hmk
 have hcb:bb<w6.heap.size:=by omega
 refine zT (fun ω=>w6.heap.size<ω.heap.size/\Below w.heap.size w ω/\ω.cell? ⟨m,0,none⟩=some (.slice (some ⟨bb,0,none⟩) n cap)/\qO ω bb n ps/\ω.rowIs w6.heap.size 3 n (fun _=> .int .i64 0)) ⟨by simp,gW,zn hM6,(HC.out.below (hb5.trans (hb6.mono (by omega)))).below (Below.alloc (Below.refl _ _) (Nat.le_refl _) _),World.rowIs_made _ _ _ _⟩ ?_
 rintro w7 ⟨hs7,hB7,hM7,hC7,hrow7⟩
 have hwo:w.heap.size<w6.heap.size:=by omega
 clear hb5 hb6 hM5 hM6 hM4 hB4 hR4
 generalize w6.heap.size=ob at*
 have HC7:=Lib.hid hC7
 have HR7:=Lib.hid hrow7
 clear hC7 HC hrow7 hz5 hz6
 have hmo:m<ob:=by omega
 generalize hl0:X-yO ps L n=l0 at*
 have hl1: -100000<=l0/\l0<=100000:=by omega
 have HL0:=Lib.hid hl0
 clear hl0
 go_wp2_with fail
 go_loopw [11,50] (fun l i wr=>∃k:Nat,k<=n/\i= .int .i64 k/\l= .int .i64 (kR ps L l0 k)/\Hid (wr.rowIs ob 3 n (fun j=> .int .i64 (if j<k then MR ps L l0 j else 0)))/\Below ob w7 wr) (fun _ i _=>n-(intOf i).toNat)
 case atStart=>exact⟨0,Nat.zero_le _,rfl,rfl,HR7.out.congr (fun j _=>by rw[if_neg (Nat.not_lt_zero _)]),Below.refl _ _⟩
 case round=>
  obtain⟨k,hkn,rfl,rfl,hrow,hbw⟩:=hrel
  have hsz:=hbw.size
  by_cases hlt:k<n
  ·have hcc:wr.cell? ⟨bb,k,none⟩=some (vO (ps k)):=(hbw.cell (p:=⟨bb,k,none⟩) hcb).trans (HC7.out.2 k hlt)
   have hoc:wr.cell? ⟨ob,k,none⟩=some (.int .i64 0):=(hrow.out.cell hlt).trans (by rw[if_neg (Nat.lt_irrefl k)])
   have hof:wr.frozen? ⟨ob,k,none⟩=false:=hrow.out.frozen k
   have hos:=hrow.out.lt
   have hlb:=X9 ps L l0 hl1 k
   have hl:Hid (kR ps L l0 (k+1)=if 0<kR ps L l0 k/\pat (ps k) L<pat (ps k) (L+1)then kR ps L l0 k-1 else kR ps L l0 k):=rfl
   have hq:Hid (MR ps L l0 k=if 0<kR ps L l0 k/\pat (ps k) L<pat (ps k) (L+1)then pat (ps k) L+1 else pat (ps k) L):=rfl
   have hpb1:=X7 (HF.out k) L
   have hpb2:=X7 (HF.out k) (L+1)
   generalize ps k=p at*
   generalize hv0:pat p L=v0 at*
   generalize hv1:pat p (L+1)=v1 at*
   generalize kR ps L l0 k=lk at*
   have HV0:=Lib.hid hv0
   have HV1:=Lib.hid hv1
   clear hv0 hv1
   rcases p with _|⟨lo,hu⟩
   all_goals
    simp only[vO]at hcc
    go_upto_region 12 with(first|(go_at_call 193;refine(JK _ v0 _ HV0.out).mono ?_;rintro e w8 ⟨rfl,hb8⟩;have hz8:=hb8.size;have hoc8:=(hb8.cell (p:=⟨ob,k,none⟩) hos).trans hoc;have hof8:=(hb8.frozen (p:=⟨ob,k,none⟩) hos).trans hof)|(go_at_call 194;refine(JL _ _ _ v0 _ HV0.out).mono ?_;rintro e w8 ⟨rfl,hb8⟩;have hz8:=hb8.size;have hoc8:=(hb8.cell (p:=⟨ob,k,none⟩) hos).trans hoc;have hof8:=(hb8.frozen (p:=⟨ob,k,none⟩) hos).trans hof))
    refine zT (fun ω=>ob<ω.heap.size/\Below ob w7 ω/\ω.cell? ⟨ob,k,none⟩=some (.int .i64 v0)/\ω.frozen? ⟨ob,k,none⟩=false/\Hid (ω.rowIs ob 3 n (fun j=>if j=k then .int .i64 v0 else .int .i64 (if j<k then MR ps L l0 j else 0)))) ⟨by simp;omega,(hbw.trans (hb8.mono (by omega))).setCell (Nat.le_refl _) _,World.cell?_setCell_same _ _ _ hoc8,(World.frozen?_setCell _ _ _ _).trans hof8,(hrow.out.of_block (hb8.block ob hos)).set k _⟩ ?_
    rintro w9 ⟨hs9,hB9,hc9,hf9,hr9⟩
    clear hb8 hoc8 hof8 hbw hrow hoc hof hcc hz8
    clear hsz hos w8 wr
    by_cases c1:0<lk
    ·have cd:decide (0<lk)=true:=decide_eq_true c1
     go_region_held3 (fun ω=>Below w9.heap.size w9 ω/\ω.cell? ⟨ob,k,none⟩=some (.int .i64 v0)) (refine⟨gW,?_⟩<;>(repeat'(first|(with_reducible assumption)|(with_reducible refine zn ?_)|(with_reducible refine zt ?_)|(with_reducible refine zw ?_)|(with_reducible refine za (by assumption) ?_ ?_)|omega|(simp;done)|(simp;omega)))) (first|(go_at_call 193;refine(JK _ v1 _ HV1.out).mono ?_;rintro e w10 ⟨rfl,hb10⟩;have hz10:=hb10.size;(repeat(first|simp only[World.size_alloc]at hz10|simp only[World.size_drew]at hz10|simp only[World.size_setCell]at hz10)))|(go_at_call 194;refine(JL _ _ _ v1 _ HV1.out).mono ?_;rintro e w10 ⟨rfl,hb10⟩;have hz10:=hb10.size;(repeat(first|simp only[World.size_alloc]at hz10|simp only[World.size_drew]at hz10|simp only[World.size_setCell]at hz10))))
     have hH:Below w9.heap.size w9 w10/\w10.cell? ⟨ob,k,none⟩=some (.int .i64 v0):=by assumption
     have hf10:w10.frozen? ⟨ob,k,none⟩=false:=(hH.1.frozen (p:=⟨ob,k,none⟩) hs9).trans hf9
     have hc10:=hH.2
     have hr10:Hid (w10.rowIs ob 3 n (fun j=>if j=k then .int .i64 v0 else .int .i64 (if j<k then MR ps L l0 j else 0))):=hr9.out.of_block (hH.1.block ob hs9)
     have hB10:Below ob w7 w10:=hB9.trans (hH.1.mono (by omega))
     have hs10:ob<w10.heap.size:=Nat.lt_of_lt_of_le hs9 hH.1.size
     clear hH hb10 hr9 hB9 hc9 hf9
     by_cases c2:v0<v1
     ·have E1:Hid (kR ps L l0 (k+1)=lk-1):=hl.out.trans (if_pos ⟨c1,c2⟩)
      have E2:Hid (MR ps L l0 k=v0+1):=hq.out.trans (if_pos ⟨c1,c2⟩)
      go_wp2_with fail
      go_roundw
      case rel=>exact⟨k+1,by omega,by go_num,by rw[E1.out],(hr10.out.set k _).congr (fun j _=>zc3 E2.out j),hB10.setCell (Nat.le_refl _) _⟩
      case measure=>simp[intOf];omega
     ·have E1:Hid (kR ps L l0 (k+1)=lk):=hl.out.trans (if_neg (fun h=>c2 h.2))
      have E2:Hid (MR ps L l0 k=v0):=hq.out.trans (if_neg (fun h=>c2 h.2))
      go_wp2_with fail
      go_roundw
      case rel=>exact⟨k+1,by omega,by go_num,by rw[E1.out],hr10.out.congr (fun j _=>Yi E2.out j),hB10⟩
      case measure=>simp[intOf];omega
    ·have cd:decide (0<lk)=false:=decide_eq_false c1
     have c2:lk<=0:=by omega
     go_region
     have E1:Hid (kR ps L l0 (k+1)=lk):=hl.out.trans (if_neg (fun h=>c1 h.1))
     have E2:Hid (MR ps L l0 k=v0):=hq.out.trans (if_neg (fun h=>c1 h.1))
     go_wp2_with fail
     go_roundw
     case rel=>exact⟨k+1,by omega,by go_num,by rw[E1.out],hr9.out.congr (fun j _=>Yi E2.out j),gW⟩
     case measure=>simp[intOf];omega
  ·have hkn:k=n:=by omega
   subst hkn
   go_wp2_with fail
   refine bodyPost_ret (v:= .tuple #[.slice (some ⟨ob,0,none⟩) k k,.nilIface]) ?_ rfl ⟨⟨ob,rfl,by omega,hrow.out.congr (fun j hj=>by rw[if_pos hj,HL0.out])⟩,hB7.trans (hbw.mono (by omega))⟩
   simp[results,Tryz.results85,go_sem]
theorem Gc {g:GD} {t r s c:Int} (h:∀k,k<g.n->zj t r s c (g.fi k 0) (g.fi k 1) (g.fb k 2)=0) (x:Int):∀k,k<=g.n->kR (wy g t r) (ve g t r x) (j3 g t r x-q8 g t r (ve g t r x) g.n) k=vf g t r x k
 |0,_=>rfl
 |k+1,hk=>by
  simp only[kR,vf]
  rw[Gc h x k (by omega),gp (by omega) (h k (by omega)),gp (by omega) (h k (by omega))]
theorem zht {g:GD} {t r s c:Int} (h:∀k,k<g.n->zj t r s c (g.fi k 0) (g.fi k 1) (g.fb k 2)=0) (x:Int) (k:Nat) (hk:k<g.n):MR (wy g t r) (ve g t r x) (j3 g t r x-q8 g t r (ve g t r x) g.n) k=Wi g t r x k:=by
 unfold MR Wi
 rw[Gc h x k (by omega),gp hk (h k hk),gp hk (h k hk)]
theorem Yj {w:World} {b n0:Nat} {T:TypeId} {n:Nat} {f:Nat->Int} (h:w.rowIs b T n (fun k=> .int .i64 (f k))) (hb:n0<=b):gM T n0 w ((List.range n).map f) (.slice (some ⟨b,0,none⟩) n n):=by
 obtain⟨c,h1,h2,h3⟩:=h
 refine⟨b,n,c,by simp,hb,h1,h2,by simp[h2],fun i x hi=>?_⟩
 rw[List.getElem?_map]at hi
 by_cases hl:i<n
 ·rw[List.getElem?_range hl]at hi
  cases hi
  exact h3 i hl
 ·rw[List.getElem?_eq_none (by simp;omega)]at hi
  cases hi
theorem Vx (g:GD) (hk:g.ks=[true,true,false]) (t r s c x:Int) (w:World) (o:g.ok w) (hz:qj g t r s c=0) (bx:B64 x):
  Calls Tryz.prog 85 #[.agg #[.int .i64 t,.int .i64 r,.int .i64 s,.int .i64 c],.slice g.A g.n g.c,.int .i64 x] w fun e w'=>(∃v,e= .returned (.tuple #[v,.nilIface])/\gM 3 w.heap.size w' (YH g t r x) v)/\Below w.heap.size w w':=by
 obtain⟨⟨a1,a2,a3,a4,a5,a6,a7,a8⟩,b1,b2,b3⟩:=xJ _ hz
 have e1:j3 g t r x=zm x (yO (wy g t r) (-t) g.n) (yO (wy g t r) t g.n):=by
  rw[yB b3 _ _ (Nat.le_refl _),yB b3 _ _ (Nat.le_refl _)]
  exact wD _ _ _ (kx g t r (by omega) g.n)
 have e2:ve g t r x=zbo (fun y=>yO (wy g t r) y g.n) (j3 g t r x) t:=by
  unfold ve zia
  congr 1
  funext y
  exact(yB b3 y _ (Nat.le_refl _)).symm
 refine(Vw g hk t r s c x w o hz bx _ rfl _ _ e1 e2).mono ?_
 rintro e w' ⟨⟨b,rfl,hb,hr⟩,hB⟩
 refine⟨⟨_,rfl,?_⟩,hB⟩
 have e3:YH g t r x=(List.range g.n).map fun k=>MR (wy g t r) (ve g t r x) (j3 g t r x-yO (wy g t r) (ve g t r x) g.n) k:=by
  unfold YH
  refine List.map_congr_left fun i hi=>?_
  rw[yB b3 _ _ (Nat.le_refl _)]
  exact(zht b3 x i (List.mem_range.1 hi)).symm
 rw[e3]
 exact Yj hr hb
end Go.Proofs.YtoakpnoajmngmaaGreatDoor.Sx
