import Derived.Test.YtoakpnoajmngmaaGreatDoorWgA
import Derived.Test.YtoakpnoajmngmaaGreatDoorWord4
import Derived.Test.YtoakpnoajmngmaaGreatDoorWgPl
import Derived.Test.YtoakpnoajmngmaaGreatDoorServos
import Derived.Laws.AppendOwnNone
import Derived.Laws.OwnMore
set_option linter.unusedVariables false
set_option linter.unusedSimpArgs false
namespace Go.Proofs.YtoakpnoajmngmaaGreatDoor
open Go.RowKit
theorem gw {w w1:World} {base:Nat} {e:TypeId} {size:Nat} {v:Value} {n:Nat} {xs:List Value} (h:w.ownsRow base e size v n xs) (hb:Below w.heap.size w w1):w1.ownsRow base e size v n xs:=by
 obtain⟨h1,h2⟩:=h
 refine⟨h1,?_⟩
 rcases h2 with h2|⟨g,cap,cur,a1,a2,a3,a4,a5,a6,a7⟩
 ·exact .inl h2
 ·exact .inr ⟨g,cap,cur,a1,a2,(hb.block g (Array.getElem?_eq_some_iff.1 a3).1).trans a3,a4,a5,a6,a7⟩
theorem KA {w:World} {base base':Nat} {e:TypeId} {size:Nat} {v:Value} {n:Nat} {xs:List Value} (h:w.ownsRow base e size v n xs) (hb:base'<=base):w.ownsRow base' e size v n xs:=by
 obtain⟨h1,h2⟩:=h
 refine⟨h1,?_⟩
 rcases h2 with h2|⟨g,cap,cur,a1,a2,a3⟩
 ·exact .inl h2
 ·exact .inr ⟨g,cap,cur,a1,Nat.le_trans hb a2,a3⟩
theorem zfI {w:World} {ad:Addr}:∀(j:Nat) (u:Value),([]:List Value)[j]? =some u->w.cell? (ad.add j)=some u:=fun j u hu=>by simp at hu
theorem zfJ:∀u∈([]:List Value),u.oneCell'=true:=fun u hu=>by simp at hu
theorem ZH (g a b:Nat):(⟨g,a,none⟩:Addr).add b=⟨g,a+b,none⟩:=by unfold Addr.add;split<;>simp_all
theorem vm (g b:Nat):(⟨g,0,none⟩:Addr).add b=⟨g,b,none⟩:=by rw[ZH,Nat.zero_add]
theorem zil {w:World} {base t:Nat} {v:Value} {n:Nat} {L:List Rd} (h:w.ownsRow base t 4 v n (rdL L)) (hn:0<n):∃g cap,v= .slice (some ⟨g,0,none⟩) n cap/\n<=cap/\base<=g/\g<w.heap.size:=by
 rcases h.2 with⟨_,h0⟩|⟨g,cap,cur,rfl,hb,_,hc,_⟩
 ·omega
 ·exact⟨g,cap,rfl,hc,hb,(h.lt g rfl).2⟩
theorem GT {w:World} {base t:Nat} {v:Value} {n:Nat} {L:List Rd} (h:w.ownsRow base t 4 v n (rdL L)):(v= .slice none 0 0/\n=0)\/∃g cap,v= .slice (some ⟨g,0,none⟩) n cap/\n<=cap/\base<=g/\g<w.heap.size:=by
 rcases h.2 with h0|⟨g,cap,cur,rfl,hb,_,hc,_⟩
 ·exact .inl h0
 ·exact .inr ⟨g,cap,rfl,hc,hb,(h.lt g rfl).2⟩
theorem za3 {w:World} {base t:Nat} {g n cap:Nat} {L:List Rd} (h:w.ownsRow base t 4 (.slice (some ⟨g,0,none⟩) n cap) n (rdL L)) {j:Nat} {q:Rd} (hq:L[j]? =some q):
  w.cell? ⟨g,j*4,none⟩=some (.int .i64 q.l)/\w.cell? ⟨g,j*4+1,none⟩=some (.int .i64 q.s)/\w.cell? ⟨g,j*4+2,none⟩=some (.int .i64 q.st)/\w.cell? ⟨g,j*4+3,none⟩=some (.int .i64 q.d):=by
 have hadd:∀g j,(⟨g,0,none⟩:Addr).add j=⟨g,j,none⟩:=fun g j=>by unfold Addr.add;split<;>simp_all
 obtain⟨e0,e1,e2,e3⟩:=zbj L j q hq
 have f0:=h.cells (g:=g) rfl _ _ e0
 have f1:=h.cells (g:=g) rfl _ _ e1
 have f2:=h.cells (g:=g) rfl _ _ e2
 have f3:=h.cells (g:=g) rfl _ _ e3
 rw[hadd]at f0 f1 f2 f3
 exact⟨f0,f1,f2,f3⟩
def kj (w:World) (A:Option Addr) (n:Nat) (f:Nat->Nat):Prop:=∀k,k<n->f k<4294967296/\∃b off,A=some ⟨b,off,none⟩/\b<w.heap.size/\w.cell? ⟨b,off+k,none⟩=some (.int .u32 (f k))
theorem zfK:(Tryz.prog.info? 136).map (fun i=>(i.zero,i.size,i.bytes))=some (some (.agg #[.int .i64 0,.int .i64 0,.int .i64 0,.int .i64 0]),4,32):=by kernel_rfl
theorem zpu (x:Nat) (w:World) (hx:x<4294967296):Calls Tryz.prog 61 #[.int .u32 x] w fun e w'=>e= .returned (.agg #[.int .i64 (Y8 x).l,.int .i64 (Y8 x).s,.int .i64 (Y8 x).st,.int .i64 (Y8 x).d])/\Below w.heap.size w w':=
 KS x _ _ _ _ w hx rfl (fun _=>rfl) (fun _=>rfl) (fun _=>rfl)
end Go.Proofs.YtoakpnoajmngmaaGreatDoor
namespace Go.Proofs.YtoakpnoajmngmaaGreatDoor
open Go.RowKit
theorem vn (r:Rd) (L:List Rd):yf r L≠ []:=by
 cases L with
 |nil=>simp[yf]
 |cons a l=>unfold yf;(repeat' split)<;>simp
set_option maxRecDepth 100000 in
set_option maxHeartbeats 20000000 in
theorem KB (A:Option Addr) (c n:Nat) (f:Nat->Nat) (w:World) (hn:n<=1000) (h:kj w A n f):
  Calls Tryz.prog 26 #[.slice A n c] w fun e w'=>(∃v,e= .returned (.tuple #[v,.int .i64 (vK f n)])/\w'.ownsRow w.heap.size 136 4 v (gath f n).length (rdL (gath f n))/\Hid (gath f n=[]->v= .slice none 0 0))/\Below w.heap.size w w':=by
 have HW:=Lib.hid h
 have HS:=Lib.hid (k7 f)
 have HLn:=Lib.hid (wA f)
 have HBn:=Lib.hid (mR f)
 clear h
 obtain⟨i0,hif,hza,hzb,hzc⟩:=info_parts zfK
 go_enter Tryz.func26,Tryz.ntmps26
 go_wp2_with fail
 go_loopw [4,5,6] (fun bd v i wr=>∃k:Nat,k<=n/\i= .int .i64 k/\bd= .int .i64 (vK f k)/\wr.ownsRow w.heap.size 136 4 v (gath f k).length (rdL (gath f k))/\Below w.heap.size w wr/\Hid (gath f k=[]->v= .slice none 0 0)) (fun _ _ i _=>n-(intOf i).toNat)
 case atStart=>exact⟨0,Nat.zero_le _,rfl,rfl,World.ownsRow_nil _ _ _ _,Below.refl _ _,fun _=>rfl⟩
 case round=>
  obtain⟨k,hkn,rfl,rfl,hown,hbw,hnl⟩:=hrel
  have hsz:=hbw.size
  by_cases hlt:k<n
  ·obtain⟨hx,b,off,rfl,hbl,c0⟩:=HW.out k hlt
   have e0:=(hbw.cell (p:=⟨b,off+k,none⟩) hbl).trans c0
   clear c0
   have hbl2:b<wr.heap.size:=by omega
   have hGL:=HLn.out k
   have hGB:=HBn.out k
   have HS1:=Lib.hid (HS.out k)
   cases ho:mY (f k)
   ·have G1:Hid (gath f (k+1)=gath f k):=if_neg (by rw[ho];decide)
    have G2:Hid (vK f (k+1)=vK f k+1):=if_neg (by rw[ho];decide)
    generalize vK f k=bd at*
    generalize gath f k=L at*
    generalize f k=x at*
    have hwb:IntKind.wrap .i64 ((bd:Int)+1)=(bd:Int)+1:=IntWalk.i64_in _ ⟨by omega,by omega⟩
    go_wp2_with (first|(go_at_call 60;((with_reducible refine(kG x false _ (by omega) (fun _=>ho)).mono ?_);rintro e w5 ⟨rfl,rfl⟩))|fail)
    go_roundw
    case rel=>exact⟨k+1,by omega,by go_num,by rw[G2.out];go_num,by rw[G1.out];exact hown,hbw,fun h0=>hnl.out (G1.out.symm.trans h0)⟩
    case measure=>simp[intOf];omega
   ·clear hnl
    have G1:Hid (gath f (k+1)=yf (Y8 (f k)) (gath f k)):=if_pos ho
    have G2:Hid (vK f (k+1)=vK f k):=if_pos ho
    have HRd:=Lib.hid fun w=>zpu (f k) w hx
    generalize vK f k=bd at*
    generalize gath f k=L at*
    generalize f k=x at*
    generalize Y8 x=r at*
    go_upto_region 9 with(first|(go_at_call 60;((with_reducible refine(kG x true _ (by omega) (fun _=>ho)).mono ?_);rintro e w5 ⟨rfl,rfl⟩))|(go_at_call 61;((with_reducible refine(HRd.out _).mono ?_);rintro e w5 ⟨rfl,hb5⟩;have hz5:=hb5.size))|fail)
    refine zT (fun ω=>Below w.heap.size w ω/\w5.heap.size<ω.heap.size/\ω.ownsRow w.heap.size 136 4 u5 L.length (rdL L)/\ω.cell? ⟨w5.heap.size,0,none⟩=some (.int .i64 r.l)/\ω.cell? ⟨w5.heap.size,1,none⟩=some (.int .i64 r.s)/\ω.cell? ⟨w5.heap.size,2,none⟩=some (.int .i64 r.st)/\ω.cell? ⟨w5.heap.size,3,none⟩=some (.int .i64 r.d)) ⟨gW,by simp,(gw hown hb5).alloc _,World.cell?_alloc_mark w5 _ _ _ 0,World.cell?_alloc_mark w5 _ _ _ 1,World.cell?_alloc_mark w5 _ _ _ 2,World.cell?_alloc_mark w5 _ _ _ 3⟩ ?_
    have hwrb:w.heap.size<=w5.heap.size:=by omega
    have hltb:∀q,u5.ownBlock=some q->q<w5.heap.size:=fun q hq=>Nat.lt_of_lt_of_le (hown.lt q hq).2 hz5
    clear hb5 hown hz5 e0
    generalize w5.heap.size=rb at*
    rintro w6 ⟨hB6,hs6,hown6,q0,q1,q2,q3⟩
    go_wp2_with fail
    obtain⟨wo,rfl⟩:∃x:World,x=wr:=⟨_,rfl⟩
    obtain⟨m,hm⟩:∃m,L.length=m:=⟨_,rfl⟩
    have HLm:Hid (∀j,j<m->∃q,L[j]? =some q):=fun j hj=>⟨L[j]'(by omega),List.getElem?_eq_getElem (by omega)⟩
    have HLn':Hid (∀j q,L[j]? =some q->j<m):=fun j q h=>by have:=(List.getElem?_eq_some_iff.1 h).1;omega
    have Hm:=Lib.hid hm
    rw[hm]at hown6 hGL
    clear hm
    obtain⟨rl,hrl⟩:∃x,r.l=x:=⟨_,rfl⟩
    obtain⟨rs,hrs⟩:∃x,r.s=x:=⟨_,rfl⟩
    obtain⟨rt,hrt⟩:∃x,r.st=x:=⟨_,rfl⟩
    obtain⟨rd,hrd⟩:∃x,r.d=x:=⟨_,rfl⟩
    rw[hrl]at q0
    rw[hrs]at q1
    rw[hrt]at q2
    rw[hrd]at q3
    rw[hrl,hrs,hrt,hrd]
    have R0:=Lib.hid hrl
    have R1:=Lib.hid hrs
    have R2:=Lib.hid hrt
    have R3:=Lib.hid hrd
    clear hrl hrs hrt hrd
    go_loopw [8] (fun a wq=>∃j:Nat,j<=m/\a= .int .i64 j/\Hid (∀(i:Nat) q,i<j->L[i]? =some q->q.lt r)/\Below w6.heap.size w6 wq) (fun a _=>m-(intOf a).toNat)
    case atStart=>exact⟨0,Nat.zero_le _,rfl,fun i q h=>absurd h (Nat.not_lt_zero _),Below.refl _ _⟩
    case round=>
     obtain⟨j,hjm,rfl,hlow,hbq⟩:=hrel
     have hsq:=hbq.size
     have p0:=(hbq.cell (p:=⟨rb,0,none⟩) hs6).trans q0
     have p1:=(hbq.cell (p:=⟨rb,1,none⟩) hs6).trans q1
     have p2:=(hbq.cell (p:=⟨rb,2,none⟩) hs6).trans q2
     have p3:=(hbq.cell (p:=⟨rb,3,none⟩) hs6).trans q3
     have ownq:=gw hown6 hbq
     have hrbw:rb<wr.heap.size:=by omega
     by_cases hj:j<m
     ·obtain⟨q,hq⟩:=HLm.out j hj
      obtain⟨g,cap,rfl,hcap,hg0,hgw⟩:=zil ownq (by omega)
      obtain⟨c0,c1,c2,c3⟩:=za3 ownq hq
      have hgr:g<rb:=hltb g rfl
      have hQ:=Lib.hid hq
      have HO:=Lib.hid ownq
      clear ownq hq
      obtain⟨ql,hql⟩:∃x,q.l=x:=⟨_,rfl⟩
      obtain⟨qs,hqs⟩:∃x,q.s=x:=⟨_,rfl⟩
      rw[hql]at c0
      rw[hqs]at c1
      have Q0:=Lib.hid hql
      have Q1:=Lib.hid hqs
      clear hql hqs
      have cj:decide ((j:Int)<(m:Int))=true:=decide_eq_true (by omega)
      by_cases a1:ql<rl
      ·have cd1:decide (ql<rl)=true:=decide_eq_true a1
       have hlt':Hid (q.lt r):= .inl (by rw[Q0.out,R0.out];exact a1)
       go_upto_region 10 with fail
       go_region
       go_wp2_with fail
       go_roundw
       case rel=>exact⟨j+1,by omega,by go_num,fun i q' hi hL=>by
        by_cases e:i=j
        ·subst e
         rw[hQ.out]at hL
         cases hL
         exact hlt'.out
        ·exact hlow.out i q' (by omega) hL,gW⟩
       case measure=>simp[intOf];omega
      ·by_cases a2:ql=rl
       ·subst a2
        by_cases a3:qs<rs
        ·have cd1:decide (qs<rs)=true:=decide_eq_true a3
         have hlt':Hid (q.lt r):= .inr ⟨by rw[Q0.out,R0.out],by rw[Q1.out,R1.out];exact a3⟩
         go_upto_region 10 with fail
         go_region
         go_wp2_with fail
         go_roundw
         case rel=>exact⟨j+1,by omega,by go_num,fun i q' hi hL=>by
          by_cases e:i=j
          ·subst e
           rw[hQ.out]at hL
           cases hL
           exact hlt'.out
          ·exact hlow.out i q' (by omega) hL,gW⟩
         case measure=>simp[intOf];omega
        ·have cd1:decide (qs<rs)=false:=decide_eq_false a3
         by_cases a4:qs=rs
         ·subst a4
          have hrn:Hid (yf r L=L.set j r):=(mP (by rw[Hm.out];omega) hlow.out (fun q' h=>by
           rw[hQ.out]at h
           cases h
           unfold Rd.lt
           rw[Q0.out,R0.out,Q1.out,R1.out]
           omega)).1 q hQ.out ⟨by rw[Q0.out,R0.out],by rw[Q1.out,R1.out]⟩
          have zf:∀i,wr.frozen? ⟨g,i,none⟩=false:=fun i=>HO.out.frozenAt i
          have hgr':g≠rb:=by omega
          go_upto_region 10 with fail
          go_region
          go_upto_region 12 with fail
          go_region
          go_wp2_with fail
          go_roundw
          case rel=>exact⟨k+1,by omega,by go_num,by rw[G2.out],(by
           rw[G1.out,hrn.out,List.length_set,Hm.out,zbk L j r (by rw[Hm.out];exact hj),R0.out,R1.out,R2.out,R3.out]
           exact((((HO.out.stored _ _).1.stored _ _).1.stored _ _).1.stored _ _).1),gW,fun h0=>absurd (G1.out.symm.trans h0) (vn _ _)⟩
          case measure=>simp[intOf];omega
         ·have cd3:(qs==rs)=false:=by simp[a4]
          go_upto_region 10 with fail
          go_region
          go_upto_region 12 with fail
          go_region
          have hrn:Hid (yf r L=L.take j++r::L.drop j):=(mP (by rw[Hm.out];omega) hlow.out (fun q' h=>by
           rw[hQ.out]at h
           cases h
           unfold Rd.lt
           rw[Q0.out,R0.out,Q1.out,R1.out]
           omega)).2 (fun q' h=>by
           rw[hQ.out]at h
           cases h
           unfold Rd.same
           rw[Q0.out,R0.out,Q1.out,R1.out]
           exact fun h=>a4 h.2)
          go_upto_region 15 with fail
          go_wp2_with (first|(at_builtin;go_loud (refine wpList_append_own _ rfl (.tmp 93) (.tmp 96) 82 rfl (w6.heap.size) 136 i0 (.agg #[.int .i64 0,.int .i64 0,.int .i64 0,.int .i64 0]) 4 32 Tryz.underlying82 hif hza hzb hzc rfl (by decide) (.slice none 0 0) 0 [] rfl (World.ownsRow_nil _ _ _ _) ⟨g,0,none⟩ j cap ((rdL L).take (j*4)) rfl ?d1_1 ?d2_1 ?d3_1 ?d4_1 ?d5_1 ?d6_1 ?_))|fail)
          case d1_1=>(try rw[List.length_take]);rw[vy,Hm.out];omega
          case d2_1=>
           intro jj u hu
           rw[List.getElem?_take]at hu
           split at hu
           ·have h3:=HO.out.cells rfl _ _ hu
            rw[vm]at h3
            first|exact h3|(rw[vm];exact h3)
           ·cases hu
          case d3_1=>exact fun u hu=>vz L u (List.mem_of_mem_take hu)
          case d4_1=>unfold maxLen;omega
          case d5_1=>omega
          all_goals(try exact hsq)
          intro v1 w7 own7 grow7 _
          have HB7:Below w6.heap.size w6 w7:=Below.grown (gW) grow7 hsq (fun q h=>nomatch h)
          (try simp only[Nat.zero_add,List.nil_append]at own7)
          have hz7:=HB7.size
          have t0:=(HB7.cell (p:=⟨rb,0,none⟩) hs6).trans q0
          have t1:=(HB7.cell (p:=⟨rb,1,none⟩) hs6).trans q1
          have t2:=(HB7.cell (p:=⟨rb,2,none⟩) hs6).trans q2
          have t3:=(HB7.cell (p:=⟨rb,3,none⟩) hs6).trans q3
          clear grow7 p0 p1 p2 p3 c0 c1 c2 c3
          have hrb7:rb<w7.heap.size:=by omega
          go_wp2_with (first|(at_builtin;go_loud (refine wpList_append_own _ rfl (.tmp 98) (.tmp 100) 82 rfl (w6.heap.size) 136 i0 (.agg #[.int .i64 0,.int .i64 0,.int .i64 0,.int .i64 0]) 4 32 Tryz.underlying82 hif hza hzb hzc rfl (by decide) v1 j ((rdL L).take (j*4)) rfl (own7.alloc _) ⟨_,0,none⟩ 1 1 [.int .i64 ql,.int .i64 rs,.int .i64 rt,.int .i64 rd] rfl rfl ?c1_2 ?c2_2 ?c3_2 ?c4_2 ?c5_2 ?_))|fail)
          try
           case c1_2=>
            intro jj u hu
            match jj,hu with
            |0,hu=>simp at hu;subst hu;simp[Addr.add]
            |1,hu=>simp at hu;subst hu;simp[Addr.add]
            |2,hu=>simp at hu;subst hu;simp[Addr.add]
            |3,hu=>simp at hu;subst hu;simp[Addr.add]
          try
           case c2_2=>intro u hu;simp at hu;rcases hu with rfl|rfl|rfl|rfl<;>rfl
          try
           case c3_2=>unfold maxLen;omega
          try
           case c4_2=>omega
          try
           case c5_2=>simp;omega
          intro v2 w8 own8 grow8 _
          have HB8:Below w6.heap.size w6 w8:=Below.grown (gW) grow8 (by simp;omega) (fun q hq=>(own7.lt q hq).1)
          have HO8:=Lib.hid (gw hown6 HB8)
          have hz8:=HB8.size
          clear grow8 own7 t0 t1 t2 t3 hrb7 HB7
          go_wp2_with (first|(at_builtin;go_loud (refine wpList_append_own _ rfl (.tmp 102) (.tmp 105) 82 rfl (w6.heap.size) 136 i0 (.agg #[.int .i64 0,.int .i64 0,.int .i64 0,.int .i64 0]) 4 32 Tryz.underlying82 hif hza hzb hzc rfl (by decide) v2 (j+1) ((rdL L).take (j*4)++[.int .i64 ql,.int .i64 rs,.int .i64 rt,.int .i64 rd]) rfl own8 ⟨g,j*4,none⟩ (m-j) (cap-j) ((rdL L).drop (j*4)) rfl ?d1_3 ?d2_3 ?d3_3 ?d4_3 ?d5_3 ?d6_3 ?_))|fail)
          case d1_3=>(try rw[List.length_drop]);rw[vy,Hm.out];omega
          case d2_3=>
           intro jj u hu
           rw[List.getElem?_drop]at hu
           have:=HO8.out.cells rfl _ _ hu
           rw[ZH]at this
           rw[Nat.zero_add]at this
           first|exact this|(rw[ZH];exact this)
          case d3_3=>exact fun u hu=>vz L u (List.mem_of_mem_drop hu)
          case d4_3=>unfold maxLen;omega
          case d5_3=>omega
          all_goals(try exact hz8)
          intro v3 w9 own9 grow9 _
          have HB9:Below w6.heap.size w6 w9:=Below.grown HB8 grow9 hz8 (fun q hq=>(own8.lt q hq).1)
          clear grow9 own8
          go_wp2_with fail
          go_roundw
          case rel=>exact⟨k+1,by omega,by go_num,by rw[G2.out],(by
           rw[G1.out]
           have e1:(yf r L).length=j+1+(m-j):=by rw[hrn.out,List.length_append,List.length_cons,List.length_take,List.length_drop,Hm.out];omega
           have e2:rdL (yf r L)=(rdL L).take (j*4)++(.int .i64 ql:: .int .i64 rs:: .int .i64 rt:: .int .i64 rd::(rdL L).drop (j*4)):=by
            rw[hrn.out,Jg,wB]
            show _++(.int .i64 r.l:: .int .i64 r.s:: .int .i64 r.st:: .int .i64 r.d::rdL (L.drop j))=_
            rw[GZ,R0.out,R1.out,R2.out,R3.out]
           rw[e1,e2]
           exact KA own9 (by omega)),hB6.trans (HB9.mono (by omega)),fun h0=>absurd (G1.out.symm.trans h0) (vn _ _)⟩
          case measure=>simp[intOf];omega
       ·have cd1:decide (ql<rl)=false:=decide_eq_false a1
        have cd2:(ql==rl)=false:=by simp[a2]
        have hrn:Hid (yf r L=L.take j++r::L.drop j):=(mP (by rw[Hm.out];omega) hlow.out (fun q' h=>by
         rw[hQ.out]at h
         cases h
         unfold Rd.lt
         rw[Q0.out,R0.out,Q1.out,R1.out]
         omega)).2 (fun q' h=>by
         rw[hQ.out]at h
         cases h
         unfold Rd.same
         rw[Q0.out,R0.out,Q1.out,R1.out]
         exact fun h=>a2 h.1)
        go_upto_region 10 with fail
        go_region
        go_upto_region 12 with fail
        go_region
        go_upto_region 15 with fail
        go_wp2_with (first|(at_builtin;go_loud (refine wpList_append_own _ rfl (.tmp 93) (.tmp 96) 82 rfl (w6.heap.size) 136 i0 (.agg #[.int .i64 0,.int .i64 0,.int .i64 0,.int .i64 0]) 4 32 Tryz.underlying82 hif hza hzb hzc rfl (by decide) (.slice none 0 0) 0 [] rfl (World.ownsRow_nil _ _ _ _) ⟨g,0,none⟩ j cap ((rdL L).take (j*4)) rfl ?d1_4 ?d2_4 ?d3_4 ?d4_4 ?d5_4 ?d6_4 ?_))|fail)
        case d1_4=>(try rw[List.length_take]);rw[vy,Hm.out];omega
        case d2_4=>
         intro jj u hu
         rw[List.getElem?_take]at hu
         split at hu
         ·have h3:=HO.out.cells rfl _ _ hu
          rw[vm]at h3
          first|exact h3|(rw[vm];exact h3)
         ·cases hu
        case d3_4=>exact fun u hu=>vz L u (List.mem_of_mem_take hu)
        case d4_4=>unfold maxLen;omega
        case d5_4=>omega
        all_goals(try exact hsq)
        intro v1 w7 own7 grow7 _
        have HB7:Below w6.heap.size w6 w7:=Below.grown (gW) grow7 hsq (fun q h=>nomatch h)
        (try simp only[Nat.zero_add,List.nil_append]at own7)
        have hz7:=HB7.size
        have t0:=(HB7.cell (p:=⟨rb,0,none⟩) hs6).trans q0
        have t1:=(HB7.cell (p:=⟨rb,1,none⟩) hs6).trans q1
        have t2:=(HB7.cell (p:=⟨rb,2,none⟩) hs6).trans q2
        have t3:=(HB7.cell (p:=⟨rb,3,none⟩) hs6).trans q3
        clear grow7 p0 p1 p2 p3 c0 c1 c2 c3
        have hrb7:rb<w7.heap.size:=by omega
        go_wp2_with (first|(at_builtin;go_loud (refine wpList_append_own _ rfl (.tmp 98) (.tmp 100) 82 rfl (w6.heap.size) 136 i0 (.agg #[.int .i64 0,.int .i64 0,.int .i64 0,.int .i64 0]) 4 32 Tryz.underlying82 hif hza hzb hzc rfl (by decide) v1 j ((rdL L).take (j*4)) rfl (own7.alloc _) ⟨_,0,none⟩ 1 1 [.int .i64 rl,.int .i64 rs,.int .i64 rt,.int .i64 rd] rfl rfl ?c1_5 ?c2_5 ?c3_5 ?c4_5 ?c5_5 ?_))|fail)
        try
         case c1_5=>
          intro jj u hu
          match jj,hu with
          |0,hu=>simp at hu;subst hu;simp[Addr.add]
          |1,hu=>simp at hu;subst hu;simp[Addr.add]
          |2,hu=>simp at hu;subst hu;simp[Addr.add]
          |3,hu=>simp at hu;subst hu;simp[Addr.add]
        try
         case c2_5=>intro u hu;simp at hu;rcases hu with rfl|rfl|rfl|rfl<;>rfl
        try
         case c3_5=>unfold maxLen;omega
        try
         case c4_5=>omega
        try
         case c5_5=>simp;omega
        intro v2 w8 own8 grow8 _
        have HB8:Below w6.heap.size w6 w8:=Below.grown (gW) grow8 (by simp;omega) (fun q hq=>(own7.lt q hq).1)
        have HO8:=Lib.hid (gw hown6 HB8)
        have hz8:=HB8.size
        clear grow8 own7 t0 t1 t2 t3 hrb7 HB7
        go_wp2_with (first|(at_builtin;go_loud (refine wpList_append_own _ rfl (.tmp 102) (.tmp 105) 82 rfl (w6.heap.size) 136 i0 (.agg #[.int .i64 0,.int .i64 0,.int .i64 0,.int .i64 0]) 4 32 Tryz.underlying82 hif hza hzb hzc rfl (by decide) v2 (j+1) ((rdL L).take (j*4)++[.int .i64 rl,.int .i64 rs,.int .i64 rt,.int .i64 rd]) rfl own8 ⟨g,j*4,none⟩ (m-j) (cap-j) ((rdL L).drop (j*4)) rfl ?d1_6 ?d2_6 ?d3_6 ?d4_6 ?d5_6 ?d6_6 ?_))|fail)
        case d1_6=>(try rw[List.length_drop]);rw[vy,Hm.out];omega
        case d2_6=>
         intro jj u hu
         rw[List.getElem?_drop]at hu
         have:=HO8.out.cells rfl _ _ hu
         rw[ZH]at this
         rw[Nat.zero_add]at this
         first|exact this|(rw[ZH];exact this)
        case d3_6=>exact fun u hu=>vz L u (List.mem_of_mem_drop hu)
        case d4_6=>unfold maxLen;omega
        case d5_6=>omega
        all_goals(try exact hz8)
        intro v3 w9 own9 grow9 _
        have HB9:Below w6.heap.size w6 w9:=Below.grown HB8 grow9 hz8 (fun q hq=>(own8.lt q hq).1)
        clear grow9 own8
        go_wp2_with fail
        go_roundw
        case rel=>exact⟨k+1,by omega,by go_num,by rw[G2.out],(by
         rw[G1.out]
         have e1:(yf r L).length=j+1+(m-j):=by rw[hrn.out,List.length_append,List.length_cons,List.length_take,List.length_drop,Hm.out];omega
         have e2:rdL (yf r L)=(rdL L).take (j*4)++(.int .i64 rl:: .int .i64 rs:: .int .i64 rt:: .int .i64 rd::(rdL L).drop (j*4)):=by
          rw[hrn.out,Jg,wB]
          show _++(.int .i64 r.l:: .int .i64 r.s:: .int .i64 r.st:: .int .i64 r.d::rdL (L.drop j))=_
          rw[GZ,R0.out,R1.out,R2.out,R3.out]
         rw[e1,e2]
         exact KA own9 (by omega)),hB6.trans (HB9.mono (by omega)),fun h0=>absurd (G1.out.symm.trans h0) (vn _ _)⟩
        case measure=>simp[intOf];omega
     ·have hjm':j=m:=by omega
      subst hjm'
      have hrn:Hid (yf r L=L.take j++r::L.drop j):=(mP (by rw[Hm.out];omega) hlow.out (fun q' h=>absurd (HLn'.out _ q' h) (by omega))).2 (fun q' h=>absurd (HLn'.out _ q' h) (by omega))
      have cj:decide ((j:Int)<(j:Int))=false:=by simp
      rcases GT ownq with⟨rfl,hj0⟩|⟨g,cap,rfl,hcap,hg0,hgw⟩
      ·subst hj0
       go_upto_region 10 with fail
       go_region
       go_upto_region 12 with fail
       go_region
       go_upto_region 15 with fail
       go_wp2_with (first|(at_builtin;go_loud (refine wpList_append_own_none rfl (.tmp 93) (.tmp 96) 82 rfl (w6.heap.size) 136 i0 4 Tryz.underlying82 hif (.slice none 0 0) 0 [] rfl (World.ownsRow_nil _ _ _ _) rfl ?_))|(at_builtin;go_loud (refine wpList_append_own _ rfl (.tmp 98) (.tmp 100) 82 rfl (w6.heap.size) 136 i0 (.agg #[.int .i64 0,.int .i64 0,.int .i64 0,.int .i64 0]) 4 32 Tryz.underlying82 hif hza hzb hzc rfl (by decide) (.slice none 0 0) 0 [] rfl (World.ownsRow_nil _ _ _ _) ⟨_,0,none⟩ 1 1 [.int .i64 rl,.int .i64 rs,.int .i64 rt,.int .i64 rd] rfl rfl ?c1_7 ?c2_7 ?c3_7 ?c4_7 ?c5_7 ?_))|fail)
       try
        case c1_7=>
         intro jj u hu
         match jj,hu with
         |0,hu=>simp at hu;subst hu;simp[Addr.add]
         |1,hu=>simp at hu;subst hu;simp[Addr.add]
         |2,hu=>simp at hu;subst hu;simp[Addr.add]
         |3,hu=>simp at hu;subst hu;simp[Addr.add]
       try
        case c2_7=>intro u hu;simp at hu;rcases hu with rfl|rfl|rfl|rfl<;>rfl
       try
        case c3_7=>unfold maxLen;omega
       try
        case c4_7=>omega
       try
        case c5_7=>simp;omega
       intro v2 w8 own8 grow8 _
       have HB8:Below w6.heap.size w6 w8:=Below.grown (gW) grow8 (by simp;omega) (fun q h=>nomatch h)
       (try simp only[Nat.zero_add,List.nil_append]at own8)
       clear grow8 p0 p1 p2 p3
       go_wp2_with (first|(at_builtin;go_loud (refine wpList_append_own_none rfl (.tmp 102) (.tmp 105) 82 rfl (w6.heap.size) 136 i0 4 Tryz.underlying82 hif v2 1 [.int .i64 rl,.int .i64 rs,.int .i64 rt,.int .i64 rd] rfl own8 rfl ?_))|fail)
       go_roundw
       case rel=>exact⟨k+1,by omega,by go_num,by rw[G2.out],(by
        rw[G1.out]
        have hL0:L=[]:=List.length_eq_zero_iff.1 (by rw[Hm.out])
        have e1:(yf r L).length=1:=by rw[hL0];rfl
        have e2:rdL (yf r L)=[.int .i64 rl,.int .i64 rs,.int .i64 rt,.int .i64 rd]:=by rw[hL0,<-R0.out,<-R1.out,<-R2.out,<-R3.out];rfl
        rw[e1,e2]
        exact KA own8 (by omega)),hB6.trans (HB8.mono (by omega)),fun h0=>absurd (G1.out.symm.trans h0) (vn _ _)⟩
       case measure=>simp[intOf];omega
      ·have hgr:g<rb:=hltb g rfl
       have HO:=Lib.hid ownq
       clear ownq
       go_upto_region 10 with fail
       go_region
       go_upto_region 12 with fail
       go_region
       go_upto_region 15 with fail
       go_wp2_with (first|(at_builtin;go_loud (refine wpList_append_own _ rfl (.tmp 93) (.tmp 96) 82 rfl (w6.heap.size) 136 i0 (.agg #[.int .i64 0,.int .i64 0,.int .i64 0,.int .i64 0]) 4 32 Tryz.underlying82 hif hza hzb hzc rfl (by decide) (.slice none 0 0) 0 [] rfl (World.ownsRow_nil _ _ _ _) ⟨g,0,none⟩ j cap ((rdL L).take (j*4)) rfl ?d1_8 ?d2_8 ?d3_8 ?d4_8 ?d5_8 ?d6_8 ?_))|fail)
       case d1_8=>(try rw[List.length_take]);rw[vy,Hm.out];omega
       case d2_8=>
        intro jj u hu
        rw[List.getElem?_take]at hu
        split at hu
        ·have h3:=HO.out.cells rfl _ _ hu
         rw[vm]at h3
         first|exact h3|(rw[vm];exact h3)
        ·cases hu
       case d3_8=>exact fun u hu=>vz L u (List.mem_of_mem_take hu)
       case d4_8=>unfold maxLen;omega
       case d5_8=>omega
       all_goals(try exact hsq)
       intro v1 w7 own7 grow7 _
       have HB7:Below w6.heap.size w6 w7:=Below.grown (gW) grow7 hsq (fun q h=>nomatch h)
       (try simp only[Nat.zero_add,List.nil_append]at own7)
       have hz7:=HB7.size
       have t0:=(HB7.cell (p:=⟨rb,0,none⟩) hs6).trans q0
       have t1:=(HB7.cell (p:=⟨rb,1,none⟩) hs6).trans q1
       have t2:=(HB7.cell (p:=⟨rb,2,none⟩) hs6).trans q2
       have t3:=(HB7.cell (p:=⟨rb,3,none⟩) hs6).trans q3
       clear grow7 p0 p1 p2 p3
       have hrb7:rb<w7.heap.size:=by omega
       go_wp2_with (first|(at_builtin;go_loud (refine wpList_append_own _ rfl (.tmp 98) (.tmp 100) 82 rfl (w6.heap.size) 136 i0 (.agg #[.int .i64 0,.int .i64 0,.int .i64 0,.int .i64 0]) 4 32 Tryz.underlying82 hif hza hzb hzc rfl (by decide) v1 j ((rdL L).take (j*4)) rfl (own7.alloc _) ⟨_,0,none⟩ 1 1 [.int .i64 rl,.int .i64 rs,.int .i64 rt,.int .i64 rd] rfl rfl ?c1_9 ?c2_9 ?c3_9 ?c4_9 ?c5_9 ?_))|fail)
       try
        case c1_9=>
         intro jj u hu
         match jj,hu with
         |0,hu=>simp at hu;subst hu;simp[Addr.add]
         |1,hu=>simp at hu;subst hu;simp[Addr.add]
         |2,hu=>simp at hu;subst hu;simp[Addr.add]
         |3,hu=>simp at hu;subst hu;simp[Addr.add]
       try
        case c2_9=>intro u hu;simp at hu;rcases hu with rfl|rfl|rfl|rfl<;>rfl
       try
        case c3_9=>unfold maxLen;omega
       try
        case c4_9=>omega
       try
        case c5_9=>simp;omega
       intro v2 w8 own8 grow8 _
       have HB8:Below w6.heap.size w6 w8:=Below.grown (gW) grow8 (by simp;omega) (fun q hq=>(own7.lt q hq).1)
       have HO8:=Lib.hid (gw hown6 HB8)
       have hz8:=HB8.size
       clear grow8 own7 t0 t1 t2 t3 hrb7 HB7
       by_cases hcj:cap=j
       ·go_wp2_with (first|(at_builtin;go_loud (refine wpList_append_own _ rfl (.tmp 102) (.tmp 105) 82 rfl (w6.heap.size) 136 i0 (.agg #[.int .i64 0,.int .i64 0,.int .i64 0,.int .i64 0]) 4 32 Tryz.underlying82 hif hza hzb hzc rfl (by decide) v2 (j+1) ((rdL L).take (j*4)++[.int .i64 rl,.int .i64 rs,.int .i64 rt,.int .i64 rd]) rfl own8 ⟨g,0,none⟩ 0 0 [] rfl rfl zfI zfJ (by unfold maxLen;omega) (by omega) hz8 ?_))|fail)
        intro v3 w9 own9 grow9 _
        have HB9:Below w6.heap.size w6 w9:=Below.grown HB8 grow9 hz8 (fun q hq=>(own8.lt q hq).1)
        clear grow9 own8
        go_wp2_with fail
        go_roundw
        case rel=>exact⟨k+1,by omega,by go_num,by rw[G2.out],(by
         rw[G1.out]
         have hdr:L.drop j=[]:=List.drop_of_length_le (by rw[Hm.out];exact Nat.le_refl _)
         have e1:(yf r L).length=j+1:=by rw[hrn.out,hdr,List.length_append,List.length_cons,List.length_take,Hm.out];simp
         have e2:rdL (yf r L)=(rdL L).take (j*4)++[.int .i64 rl,.int .i64 rs,.int .i64 rt,.int .i64 rd]:=by
          rw[hrn.out,hdr,Jg,wB]
          show _++([.int .i64 r.l,.int .i64 r.s,.int .i64 r.st,.int .i64 r.d]:List Value)=_
          rw[R0.out,R1.out,R2.out,R3.out]
         rw[e1,e2]
         exact KA (by simpa using own9) (by omega)),hB6.trans (HB9.mono (by omega)),fun h0=>absurd (G1.out.symm.trans h0) (vn _ _)⟩
        case measure=>simp[intOf];omega
       ·have hcj':¬(j=cap):=fun h=>hcj h.symm
        go_wp2_with (first|(at_builtin;go_loud (refine wpList_append_own _ rfl (.tmp 102) (.tmp 105) 82 rfl (w6.heap.size) 136 i0 (.agg #[.int .i64 0,.int .i64 0,.int .i64 0,.int .i64 0]) 4 32 Tryz.underlying82 hif hza hzb hzc rfl (by decide) v2 (j+1) ((rdL L).take (j*4)++[.int .i64 rl,.int .i64 rs,.int .i64 rt,.int .i64 rd]) rfl own8 ⟨g,j*4,none⟩ 0 (cap-j) [] rfl rfl zfI zfJ (by unfold maxLen;omega) (by omega) hz8 ?_))|fail)
        intro v3 w9 own9 grow9 _
        have HB9:Below w6.heap.size w6 w9:=Below.grown HB8 grow9 hz8 (fun q hq=>(own8.lt q hq).1)
        clear grow9 own8
        go_wp2_with fail
        go_roundw
        case rel=>exact⟨k+1,by omega,by go_num,by rw[G2.out],(by
         rw[G1.out]
         have hdr:L.drop j=[]:=List.drop_of_length_le (by rw[Hm.out];exact Nat.le_refl _)
         have e1:(yf r L).length=j+1:=by rw[hrn.out,hdr,List.length_append,List.length_cons,List.length_take,Hm.out];simp
         have e2:rdL (yf r L)=(rdL L).take (j*4)++[.int .i64 rl,.int .i64 rs,.int .i64 rt,.int .i64 rd]:=by
          rw[hrn.out,hdr,Jg,wB]
          show _++([.int .i64 r.l,.int .i64 r.s,.int .i64 r.st,.int .i64 r.d]:List Value)=_
          rw[R0.out,R1.out,R2.out,R3.out]
         rw[e1,e2]
         exact KA (by simpa using own9) (by omega)),hB6.trans (HB9.mono (by omega)),fun h0=>absurd (G1.out.symm.trans h0) (vn _ _)⟩
        case measure=>simp[intOf];omega
  ·have hkn:k=n:=by omega
   subst hkn
   go_wp2_with fail
   refine bodyPost_ret (v:= .tuple #[u5,.int .i64 (vK f k)]) ?_ rfl ⟨⟨_,rfl,hown,hnl⟩,gW⟩
   simp[results,Tryz.results26,go_sem]
end Go.Proofs.YtoakpnoajmngmaaGreatDoor
