import Derived.Test.YtoakpnoajmngmaaGreatDoorWgPl
import Derived.Deep.Cut
import Derived.Deep.CutRange
import Derived.Outline
import Derived.Deep.RegionHeld3
import Derived.Deep.DeepCutAuto
import Derived.ChangeKeysEq
import Derived.Laws.StructEq
set_option linter.unusedVariables false
set_option linter.unusedSimpArgs false
namespace Go.Proofs.YtoakpnoajmngmaaGreatDoor
open Go.RowKit
def xM (w:World) (v:Value) (L:List Rd):Prop:=∃A c,v= .slice A L.length c/\∀k r,L[k]? =some r->∃b off,A=some ⟨b,off,none⟩/\b<w.heap.size/\w.cell? ⟨b,off+k*4,none⟩=some (.int .i64 r.l)/\w.cell? ⟨b,off+k*4+1,none⟩=some (.int .i64 r.s)/\w.cell? ⟨b,off+k*4+2,none⟩=some (.int .i64 r.st)/\w.cell? ⟨b,off+k*4+3,none⟩=some (.int .i64 r.d)
theorem xM.below {w w':World} {v:Value} {L:List Rd} (h:xM w v L) (hb:Below w.heap.size w w'):xM w' v L:=by
 obtain⟨A,c,e,h⟩:=h
 refine⟨A,c,e,fun k r hk=>?_⟩
 obtain⟨b,off,h1,h2,h3,h4,h5,h6⟩:=h k r hk
 exact⟨b,off,h1,Nat.lt_of_lt_of_le h2 hb.size,(hb.cell (p:=⟨b,_,none⟩) h2).trans h3,(hb.cell (p:=⟨b,_,none⟩) h2).trans h4,(hb.cell (p:=⟨b,_,none⟩) h2).trans h5,(hb.cell (p:=⟨b,_,none⟩) h2).trans h6⟩
theorem xM.own {w:World} {base t:Nat} {v:Value} {n:Nat} {L:List Rd} (h:w.ownsRow base t 4 v n (rdL L)) (hL:L.length=n):xM w v L:=by
 have hadd:∀g j,(⟨g,0,none⟩:Addr).add j=⟨g,0+j,none⟩:=fun g j=>by unfold Addr.add;split<;>simp_all
 rcases h.2 with⟨rfl,h0⟩|⟨g,cap,cur,rfl,_⟩
 ·exact⟨none,0,by rw[hL,h0],fun k r hk=>by have:=(List.getElem?_eq_some_iff.1 hk).1;omega⟩
 ·refine⟨some ⟨g,0,none⟩,cap,by rw[hL],fun k r hk=>⟨g,0,rfl,(h.lt g rfl).2,?_⟩⟩
  obtain⟨e0,e1,e2,e3⟩:=zbj L k r hk
  have f0:=h.cells (g:=g) rfl _ _ e0
  have f1:=h.cells (g:=g) rfl _ _ e1
  have f2:=h.cells (g:=g) rfl _ _ e2
  have f3:=h.cells (g:=g) rfl _ _ e3
  rw[hadd]at f0 f1 f2 f3
  exact⟨f0,f1,f2,f3⟩
def rd0:Rd:=⟨0,0,0,0⟩
def jU (L:List Rd) (l s:Int) (r:Rd) (o:Bool):Prop:=
 (o=true/\r.l=l/\r.s=s/\∃k:Nat,L[k]? =some r/\∀(i:Nat) q,i<k->L[i]? =some q->¬(q.l=l/\q.s=s))\/(o=false/\r=rd0/\∀(i:Nat) q,L[i]? =some q->¬(q.l=l/\q.s=s))
theorem jU.uniq {L:List Rd} {l s:Int} {r r':Rd} {o o':Bool} (h:jU L l s r o) (h':jU L l s r' o'):r'=r/\o'=o:=by
 rcases h with⟨rfl,h1,h2,k,h3,h4⟩|⟨rfl,rfl,h4⟩<;>rcases h' with⟨rfl,g1,g2,j,g3,g4⟩|⟨rfl,rfl,g4⟩
 ·have:j=k:=by
   rcases Nat.lt_trichotomy j k with h|h|h
   ·exact absurd ⟨g1,g2⟩ (h4 j r' h g3)
   ·exact h
   ·exact absurd ⟨h1,h2⟩ (g4 k r h h3)
  subst this
  rw[h3]at g3
  cases g3
  exact⟨rfl,rfl⟩
 ·exact absurd ⟨h1,h2⟩ (g4 k r h3)
 ·exact absurd ⟨g1,g2⟩ (h4 j r' g3)
 ·exact⟨rfl,rfl⟩
set_option maxRecDepth 100000 in
set_option maxHeartbeats 1000000 in
theorem zeu (v:Value) (L:List Rd) (l s:Int) (w:World) (h:xM w v L) (hn:L.length<=1000):
  Calls Tryz.prog 63 #[v,.int .i64 l,.int .i64 s] w fun e w'=>(∃r o,e= .returned (.tuple #[.agg #[.int .i64 r.l,.int .i64 r.s,.int .i64 r.st,.int .i64 r.d],.bool o])/\jU L l s r o)/\Below w.heap.size w w':=by
 obtain⟨A,c,rfl,hr⟩:=h
 have HR:=Lib.hid hr
 have HF:Hid (∀r o,jU L l s r o->jU L l s r o):=fun _ _ h=>h
 clear hr
 obtain⟨n,hN⟩:∃n,L.length=n:=⟨_,rfl⟩
 have HL:Hid (∀k,k<n->∃r,L[k]? =some r):=fun k hk=>⟨L[k]'(by omega),List.getElem?_eq_getElem (by omega)⟩
 have HE:Hid (∀i q,L[i]? =some q->i<n):=fun i q h=>by have:=(List.getElem?_eq_some_iff.1 h).1;omega
 rw[hN]at hn ⊢
 clear hN
 go_enter Tryz.func63,Tryz.ntmps63
 go_wp2_with fail
 go_loopw [8] (fun i wr=>∃k:Nat,k<=n/\i= .int .i64 k/\Hid (∀(i:Nat) q,i<k->L[i]? =some q->¬(q.l=l/\q.s=s))/\Below (w.heap.size+1) (w.alloc (.cells #[.int .i64 0,.int .i64 0,.int .i64 0,.int .i64 0] 136)) wr) (fun i _=>n-(intOf i).toNat)
 case atStart=>exact⟨0,Nat.zero_le _,rfl,fun i q h=>absurd h (Nat.not_lt_zero _),Below.refl _ _⟩
 case round=>
  obtain⟨k,hkn,rfl,hno,hbw⟩:=hrel
  have hsz:=hbw.size
  simp only[World.size_alloc]at hsz
  have hb0:Below w.heap.size w wr:=((Below.refl _ _).alloc (Nat.le_refl _) _).trans (hbw.mono (by omega))
  have z0:wr.cell? ⟨w.heap.size,0,none⟩=some (.int .i64 0):=(hbw.cell (p:=⟨w.heap.size,0,none⟩) (Nat.lt_succ_self _)).trans (World.cell?_alloc_mark w _ _ _ 0)
  have z1:wr.cell? ⟨w.heap.size,1,none⟩=some (.int .i64 0):=(hbw.cell (p:=⟨w.heap.size,1,none⟩) (Nat.lt_succ_self _)).trans (World.cell?_alloc_mark w _ _ _ 1)
  have z2:wr.cell? ⟨w.heap.size,2,none⟩=some (.int .i64 0):=(hbw.cell (p:=⟨w.heap.size,2,none⟩) (Nat.lt_succ_self _)).trans (World.cell?_alloc_mark w _ _ _ 2)
  have z3:wr.cell? ⟨w.heap.size,3,none⟩=some (.int .i64 0):=(hbw.cell (p:=⟨w.heap.size,3,none⟩) (Nat.lt_succ_self _)).trans (World.cell?_alloc_mark w _ _ _ 3)
  have zf:∀i,wr.frozen? ⟨w.heap.size,i,none⟩=false:=fun i=>(hbw.frozen (p:=⟨w.heap.size,i,none⟩) (Nat.lt_succ_self _)).trans (yZ rfl)
  have hwl:w.heap.size<wr.heap.size:=hsz
  by_cases hlt:k<n
  ·obtain⟨r,hr⟩:=HL.out k hlt
   obtain⟨b,off,rfl,hbl,c0,c1,c2,c3⟩:=HR.out k r hr
   have e0:=(hb0.cell (p:=⟨b,off+k*4,none⟩) hbl).trans c0
   have e1:=(hb0.cell (p:=⟨b,off+k*4+1,none⟩) hbl).trans c1
   have e2:=(hb0.cell (p:=⟨b,off+k*4+2,none⟩) hbl).trans c2
   have e3:=(hb0.cell (p:=⟨b,off+k*4+3,none⟩) hbl).trans c3
   have hbl2:b<wr.heap.size:=by omega
   have hbw2:b≠w.heap.size:=by omega
   clear c0 c1 c2 c3
   have hq:=Lib.hid hr
   obtain⟨rl,hrl⟩:∃x,r.l=x:=⟨_,rfl⟩
   obtain⟨rs,hrs⟩:∃x,r.s=x:=⟨_,rfl⟩
   obtain⟨rt,hrt⟩:∃x,r.st=x:=⟨_,rfl⟩
   obtain⟨rd,hrd⟩:∃x,r.d=x:=⟨_,rfl⟩
   rw[hrl]at e0
   rw[hrs]at e1
   rw[hrt]at e2
   rw[hrd]at e3
   have Q0:=Lib.hid hrl
   have Q1:=Lib.hid hrs
   have Q2:=Lib.hid hrt
   have Q3:=Lib.hid hrd
   clear hrl hrs hrt hrd hr
   by_cases h1:rl=l
   ·by_cases h2:rs=s
    ·subst h1
     subst h2
     go_wp2_with fail
     refine bodyPost_ret (v:= .tuple #[.agg #[.int .i64 rl,.int .i64 rs,.int .i64 rt,.int .i64 rd],.bool true]) ?_ rfl ⟨⟨r,true,by rw[Q0.out,Q1.out,Q2.out,Q3.out],.inl ⟨rfl,Q0.out,Q1.out,k,hq.out,hno.out⟩⟩,gW⟩
     simp[results,Tryz.results63,go_sem,z0,z1,z2,z3]
    ·have hd:decide (rs=s)=false:=decide_eq_false h2
     have hd2:(rs==s)=false:=by simp[h2]
     subst h1
     go_wp2_with fail
     go_roundw
     case rel=>exact⟨k+1,by omega,by go_num,fun i q hi hL=>by
      by_cases e:i=k
      ·subst e
       rw[hq.out]at hL
       cases hL
       rw[Q1.out]
       exact fun h=>h2 h.2
      ·exact hno.out i q (by omega) hL,gW⟩
     case measure=>simp[intOf];omega
   ·have hd:decide (rl=l)=false:=decide_eq_false h1
    have hd2:(rl==l)=false:=by simp[h1]
    go_wp2_with fail
    go_roundw
    case rel=>exact⟨k+1,by omega,by go_num,fun i q hi hL=>by
     by_cases e:i=k
     ·subst e
      rw[hq.out]at hL
      cases hL
      rw[Q0.out]
      exact fun h=>h1 h.1
     ·exact hno.out i q (by omega) hL,gW⟩
    case measure=>simp[intOf];omega
  ·have hkn:k=n:=by omega
   subst hkn
   go_wp2_with fail
   refine bodyPost_ret (v:= .tuple #[.agg #[.int .i64 0,.int .i64 0,.int .i64 0,.int .i64 0],.bool false]) ?_ rfl ⟨⟨rd0,false,rfl,.inr ⟨rfl,rfl,fun i q hL=>hno.out i q (HE.out i q hL) hL⟩⟩,gW⟩
   simp[results,Tryz.results63,go_sem,z0,z1,z2,z3]
theorem YZ (a b c d:Int) (w:World):(Op.equalIn 10000 89 (.agg #[.int .i64 a,.int .i64 b]) (.agg #[.int .i64 c,.int .i64 d])).run Tryz.prog w= .ok ((a==c)&&(b==d)) w:=by
 obtain⟨i,hi⟩:=Option.isSome_iff_exists.1 (show(Tryz.prog.info? 3).isSome=true by kernel_rfl)
 rw[show(10000:Nat)=9999+1 from rfl,run_equalIn_array w 9999 _ _ Tryz.underlying89 hi]
 have hc:Tryz.prog.cellsOf 3=1:=by kernel_rfl
 rw[hc]
 show(Op.eqItems 9999 _ 1 _ _ [0,1]).run _ _=_
 have e1:=run_equalIn_int (P:=Tryz.prog) w 9998 3 .i64 .i64 a c Tryz.underlying3
 have e2:=run_equalIn_int (P:=Tryz.prog) w 9998 3 .i64 .i64 b d Tryz.underlying3
 simp[Op.eqItems,part,go_sem,e1,e2]
 by_cases h1:a=c<;>by_cases h2:b=d<;>simp[h1,h2]
set_option maxRecDepth 100000 in
set_option maxHeartbeats 1000000 in
theorem zev (v:Value) (L:List Rd) (l s:Int) (w:World) (h:xM w v L) (hn:L.length<=1000):
  Calls Tryz.prog 79 #[v,.int .i64 l,.int .i64 s] w fun e w'=>(∃r o,e= .returned (.tuple #[.agg #[.int .i64 r.l,.int .i64 r.s,.int .i64 r.st,.int .i64 r.d],.bool o])/\jU L l s r o)/\Below w.heap.size w w':=by
 obtain⟨A,c,rfl,hr⟩:=h
 have HR:=Lib.hid hr
 have HF:Hid (∀r o,jU L l s r o->jU L l s r o):=fun _ _ h=>h
 clear hr
 obtain⟨n,hN⟩:∃n,L.length=n:=⟨_,rfl⟩
 have HL:Hid (∀k,k<n->∃r,L[k]? =some r):=fun k hk=>⟨L[k]'(by omega),List.getElem?_eq_getElem (by omega)⟩
 have HE:Hid (∀i q,L[i]? =some q->i<n):=fun i q h=>by have:=(List.getElem?_eq_some_iff.1 h).1;omega
 rw[hN]at hn ⊢
 clear hN
 go_enter Tryz.func79,Tryz.ntmps79
 go_wp2_with fail
 go_loopw [12] (fun i wr=>∃k:Nat,k<=n/\i= .int .i64 k/\Hid (∀(i:Nat) q,i<k->L[i]? =some q->¬(q.l=l/\q.s=s))/\Below (w.heap.size+1) (w.alloc (.cells #[.int .i64 0,.int .i64 0,.int .i64 0,.int .i64 0] 136)) wr) (fun i _=>n-(intOf i).toNat)
 case atStart=>exact⟨0,Nat.zero_le _,rfl,fun i q h=>absurd h (Nat.not_lt_zero _),Below.refl _ _⟩
 case round=>
  obtain⟨k,hkn,rfl,hno,hbw⟩:=hrel
  have hsz:=hbw.size
  simp only[World.size_alloc]at hsz
  have hb0:Below w.heap.size w wr:=((Below.refl _ _).alloc (Nat.le_refl _) _).trans (hbw.mono (by omega))
  have z0:wr.cell? ⟨w.heap.size,0,none⟩=some (.int .i64 0):=(hbw.cell (p:=⟨w.heap.size,0,none⟩) (Nat.lt_succ_self _)).trans (World.cell?_alloc_mark w _ _ _ 0)
  have z1:wr.cell? ⟨w.heap.size,1,none⟩=some (.int .i64 0):=(hbw.cell (p:=⟨w.heap.size,1,none⟩) (Nat.lt_succ_self _)).trans (World.cell?_alloc_mark w _ _ _ 1)
  have z2:wr.cell? ⟨w.heap.size,2,none⟩=some (.int .i64 0):=(hbw.cell (p:=⟨w.heap.size,2,none⟩) (Nat.lt_succ_self _)).trans (World.cell?_alloc_mark w _ _ _ 2)
  have z3:wr.cell? ⟨w.heap.size,3,none⟩=some (.int .i64 0):=(hbw.cell (p:=⟨w.heap.size,3,none⟩) (Nat.lt_succ_self _)).trans (World.cell?_alloc_mark w _ _ _ 3)
  have zf:∀i,wr.frozen? ⟨w.heap.size,i,none⟩=false:=fun i=>(hbw.frozen (p:=⟨w.heap.size,i,none⟩) (Nat.lt_succ_self _)).trans (yZ rfl)
  have hwl:w.heap.size<wr.heap.size:=hsz
  by_cases hlt:k<n
  ·obtain⟨r,hr⟩:=HL.out k hlt
   obtain⟨b,off,rfl,hbl,c0,c1,c2,c3⟩:=HR.out k r hr
   have e0:=(hb0.cell (p:=⟨b,off+k*4,none⟩) hbl).trans c0
   have e1:=(hb0.cell (p:=⟨b,off+k*4+1,none⟩) hbl).trans c1
   have e2:=(hb0.cell (p:=⟨b,off+k*4+2,none⟩) hbl).trans c2
   have e3:=(hb0.cell (p:=⟨b,off+k*4+3,none⟩) hbl).trans c3
   have hbl2:b<wr.heap.size:=by omega
   have hbw2:b≠w.heap.size:=by omega
   clear c0 c1 c2 c3
   have hq:=Lib.hid hr
   obtain⟨rl,hrl⟩:∃x,r.l=x:=⟨_,rfl⟩
   obtain⟨rs,hrs⟩:∃x,r.s=x:=⟨_,rfl⟩
   obtain⟨rt,hrt⟩:∃x,r.st=x:=⟨_,rfl⟩
   obtain⟨rd,hrd⟩:∃x,r.d=x:=⟨_,rfl⟩
   rw[hrl]at e0
   rw[hrs]at e1
   rw[hrt]at e2
   rw[hrd]at e3
   have Q0:=Lib.hid hrl
   have Q1:=Lib.hid hrs
   have Q2:=Lib.hid hrt
   have Q3:=Lib.hid hrd
   clear hrl hrs hrt hrd hr
   by_cases h1:rl=l
   ·by_cases h2:rs=s
    ·subst h1
     subst h2
     have heq:=YZ rl rs rl rs
     go_wp2_with fail
     refine bodyPost_ret (v:= .tuple #[.agg #[.int .i64 rl,.int .i64 rs,.int .i64 rt,.int .i64 rd],.bool true]) ?_ rfl ⟨⟨r,true,by rw[Q0.out,Q1.out,Q2.out,Q3.out],.inl ⟨rfl,Q0.out,Q1.out,k,hq.out,hno.out⟩⟩,gW⟩
     simp[results,Tryz.results79,go_sem,z0,z1,z2,z3,hwl]
    ·have hd:decide (rs=s)=false:=decide_eq_false h2
     have hd2:(rs==s)=false:=by simp[h2]
     subst h1
     have heq:∀w,(Op.equalIn 10000 89 (.agg #[.int .i64 rl,.int .i64 rs]) (.agg #[.int .i64 rl,.int .i64 s])).run Tryz.prog w= .ok false w:=fun w=>by rw[YZ];simp[h2]
     go_wp2_with fail
     go_roundw
     case rel=>exact⟨k+1,by omega,by go_num,fun i q hi hL=>by
      by_cases e:i=k
      ·subst e
       rw[hq.out]at hL
       cases hL
       rw[Q1.out]
       exact fun h=>h2 h.2
      ·exact hno.out i q (by omega) hL,gW⟩
     case measure=>simp[intOf];omega
   ·have hd:decide (rl=l)=false:=decide_eq_false h1
    have hd2:(rl==l)=false:=by simp[h1]
    have heq:∀w,(Op.equalIn 10000 89 (.agg #[.int .i64 rl,.int .i64 rs]) (.agg #[.int .i64 l,.int .i64 s])).run Tryz.prog w= .ok false w:=fun w=>by rw[YZ];simp[h1]
    go_wp2_with fail
    go_roundw
    case rel=>exact⟨k+1,by omega,by go_num,fun i q hi hL=>by
     by_cases e:i=k
     ·subst e
      rw[hq.out]at hL
      cases hL
      rw[Q0.out]
      exact fun h=>h1 h.1
     ·exact hno.out i q (by omega) hL,gW⟩
    case measure=>simp[intOf];omega
  ·have hkn:k=n:=by omega
   subst hkn
   go_wp2_with fail
   refine bodyPost_ret (v:= .tuple #[.agg #[.int .i64 0,.int .i64 0,.int .i64 0,.int .i64 0],.bool false]) ?_ rfl ⟨⟨rd0,false,rfl,.inr ⟨rfl,rfl,fun i q hL=>hno.out i q (HE.out i q hL) hL⟩⟩,gW⟩
   simp[results,Tryz.results79,go_sem,z0,z1,z2,z3,hwl]
end Go.Proofs.YtoakpnoajmngmaaGreatDoor
