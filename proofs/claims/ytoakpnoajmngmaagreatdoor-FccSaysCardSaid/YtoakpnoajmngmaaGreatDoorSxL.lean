import Derived.Test.YtoakpnoajmngmaaGreatDoorSxI
import Derived.Laws.CopyRow
set_option linter.unusedVariables false
set_option linter.unusedSimpArgs false
namespace Go.Proofs.YtoakpnoajmngmaaGreatDoor.Sx
open Go.RowKit (Below)
theorem HRel.add {ρ:Env} {b:Bd} {base:Nat->Prop} {w w':World} {H:List (Nat × HEnt)} {nx:Nat} (h:HRel ρ b base w H (· <nx)) {B:Blk} (β o κ:Nat) (hB:B.ok ρ (b.put nx β o κ) base w' nx) (hk:SV.okL ρ (· <nx) B.cells)
  (hkeep:∀m e,zB H m=some e->qq ρ e.g->w'.heap[b.β m]? =w.heap[b.β m]? /\(e.blk.own=true->b.β m≠β)):
  HRel ρ (b.put nx β o κ) base w' (push H nx ⟨[],B⟩) (· <nx+1):=by
 have hn:¬(nx<nx):=Nat.lt_irrefl _
 have ha:zM b (b.put nx β o κ) (· <nx):=Bd.put_agree b _ _ _ hn
 have hput:(b.put nx β o κ).β nx=β:=by simp[Bd.put]
 have hm:∀n e,zB H n=some e->qq ρ e.g->n<nx+1/\e.blk.ok ρ (b.put nx β o κ) base w' n/\SV.okL ρ (· <nx+1) e.blk.cells:=by
  intro n e hf hg
  obtain⟨h1,h2,h3⟩:=h.mem n e hf hg
  exact⟨Nat.lt_succ_of_lt h1,h2.keep h1 h3 ha (hkeep n e hf hg).1,SV.okL_mono (fun n h=>Nat.lt_succ_of_lt h) _ h3⟩
 constructor
 ·intro n e hf hg
  rw[qF]at hf
  split at hf
  ·rename_i hnn
   subst hnn
   cases hf
   exact⟨Nat.lt_succ_self _,hB,SV.okL_mono (fun n h=>Nat.lt_succ_of_lt h) _ hk⟩
  ·exact hm n e hf hg
 ·intro n m e k hf hkf hg hgk ho hok heq
  rw[qF]at hf hkf
  split at hf
  ·rename_i hnn
   subst hnn
   split at hkf
   ·assumption
   ·exfalso
    have h1:=(h.mem m k hkf hgk).1
    rw[hput,(ha m h1).1]at heq
    exact(hkeep m k hkf hgk).2 hok heq.symm
  ·split at hkf
   ·rename_i hmm
    subst hmm
    exfalso
    have h1:=(h.mem n e hf hg).1
    rw[hput,(ha n h1).1]at heq
    exact(hkeep n e hf hg).2 ho heq
   ·have h1:=(h.mem n e hf hg).1
    have h2:=(h.mem m k hkf hgk).1
    rw[(ha n h1).1,(ha m h2).1]at heq
    exact h.inj n m e k hf hkf hg hgk ho hok heq
theorem HRel.del {ρ:Env} {b:Bd} {base:Nat->Prop} {w:World} {H:List (Nat × HEnt)} {N:Nat->Prop} (h:HRel ρ b base w H N) (n:Nat):HRel ρ b base w (del H n) N where
 mem:=fun m e hf hg=>by
  rw[wu]at hf
  split at hf
  ·cases hf
  ·exact h.mem m e hf hg
 inj:=fun m p e k hf hk hg hgk ho hok heq=>by
  rw[wu]at hf hk
  split at hf
  ·cases hf
  ·split at hk
   ·cases hk
   ·exact h.inj m p e k hf hk hg hgk ho hok heq
theorem kS {ρ:Env} {b b':Bd} {tm:Array Value} {T:List (Nat × Ent)} {N M:Nat->Prop} (h:∀i e,zB T i=some e->e.at ρ b N tm i) (ha:zM b b' N) (hNM:∀n,N n->M n):∀i e,zB T i=some e->e.at ρ b' M tm i:=by
 intro i e hf
 obtain⟨h1,h2⟩:=h i e hf
 refine⟨fun hg=>?_,h2⟩
 obtain⟨h3,h4⟩:=h1 hg
 exact⟨by rw[SV.den_agree ha _ h4];exact h3,SV.ok_mono hNM _ h4⟩
def JW (A:List E) (S:St) (size:Nat):SV->Option (List SV)
 | .sl n off len _=>match MX A S n with
   |some B=>if off+len*size<=B.cells.length then some ((B.cells.drop off).take (len*size))else none
   |none=>none
 |_=>none
theorem JX {ρ:Env} {b:Bd} {base:Nat->Prop} {w0 w:World} {S:St} {tm:Array Value} {A:List E} (h:Rel ρ b base w0 w S tm) (hA:qq ρ A) {size:Nat} {x:SV} {cs:List SV} (hx:JW A S size x=some cs):
  ∃a n c,x.den ρ b= .slice (some a) n c/\cs.length=n*size/\SV.okL ρ (· <S.next) cs/\∀j u,(SV.denL ρ b cs)[j]? =some u->w.cell? (a.add j)=some u:=by
 unfold JW at hx
 split at hx
 ·rename_i n off len cap
  split at hx
  ·rename_i B hB
   split at hx
   ·rename_i hl
    cases hx
    obtain⟨m1,m2,m3⟩:=Qz h hA hB
    refine⟨⟨b.β n,b.o n+off,none⟩,len,cap.getD (b.κ n),rfl,by simp;omega,QA m3 _ _,fun j u hj=>?_⟩
    rw[qm]at hj
    cases hg:((B.cells.drop off).take (len*size))[j]? with
    |none=>rw[hg]at hj;cases hj
    |some y=>
     rw[hg]at hj
     cases hj
     rw[kf]
     refine m2.cell ?_
     rw[List.getElem?_take]at hg
     split at hg
     ·simpa using hg
     ·cases hg
   ·cases hx
  ·cases hx
 ·cases hx
def zfi:SV->Nat
 | .sl _ _ m _=>m
 |_=>0
def Ys (P:Program) (A:List E) (S:St) (t t':TypeId) (s x:SV):Option (SV × St):=
 if t=t'/\A.isEmpty=true then
  match P.underlying t with
  |some (.slice e)=>
   match P.info? e with
   |some i=>
    match JW A S i.size x,i.zero with
    |some news,some z=>
     let m:=zfi x
     if 0<i.size/\z.cells.size=i.size/\news.all SV.isOne=true/\0<m then
      match s with
      | .nils=>if m<=1000000/\m*i.bytes<=100000000 then some (.sl S.next 0 m none,{S with heap:=push S.heap S.next ⟨[],⟨news,e,.grow i.size⟩⟩,next:=S.next+1})else none
      | .sl n 0 len none=>
        match zB S.heap n with
        |some h=>
         if h.g.isEmpty=true/\h.blk.kind= .grow i.size/\h.blk.elem=e/\h.blk.cells.length=len*i.size/\len+m<=1000000/\(len+m)*i.bytes<=100000000
         then some (.sl S.next 0 (len+m) none,{S with heap:=push (del S.heap n) S.next ⟨[],⟨h.blk.cells++news,e,.grow i.size⟩⟩,next:=S.next+1})else none
        |none=>none
      |_=>none
     else none
    |_,_=>none
   |none=>none
  |_=>none
 else none
theorem VG {P:Program} {A:List E} {S S':St} {t t' ty:TypeId} {s x v:SV} (hs:Ys P A S t t' s x=some (v,S')) {ρ:Env} {b:Bd} {base:Nat->Prop} {w0 w:World} {tm:Array Value} (h:Rel ρ b base w0 w S tm) (hA:qq ρ A) (hsok:s.ok ρ (· <S.next)):
  ∃b' w',(Builtin.append_ #[t,t'] ty #[s.den ρ b,x.den ρ b]).run P w= .ok (v.den ρ b') w'/\zM b b' (· <S.next)/\Rel ρ b' base w0 w' S' tm/\v.ok ρ (· <S'.next)/\S.next<=S'.next:=by
 unfold Ys at hs
 split at hs
 ·rename_i hc0
  obtain⟨rfl,hAe⟩:=hc0
  split at hs
  ·rename_i e hu
   split at hs
   ·rename_i i hi
    split at hs
    ·rename_i news z hn hz
     dsimp only at hs
     obtain⟨a,m,c,hx,hlen,hnok,hcell⟩:=JX h hA hn
     have hm:zfi x=m:=by
      cases x<;>simp[SV.den]at hx<;>first|exact hx.2.1|(exfalso;simp[JW]at hn;done)|(split at hx<;>cases hx)
     rw[hm]at hs
     split at hs
     ·rename_i hc
      obtain⟨c1,c2,c3,c4⟩:=hc
      have hlenD:(SV.denL ρ b news).length=m*i.size:=by rw[zk];exact hlen
      split at hs
      ·split at hs
       ·rename_i hb
        cases hs
        have hr:=run_append_nil (P:=P) w t ty e i z hu hi hz a m c (SV.denL ρ b news) hlenD hcell c4 (by omega) (by omega)
        have hge:=grownCap_ge w m 0 e
        refine⟨b.put S.next w.heap.size 0 (grownCap w m 0 e),w.drew.alloc (.cells ((SV.denL ρ b news).toArray++Builtin.zeroCells z.cells (grownCap w m 0 e-m)) e),?_,Bd.put_agree b _ _ _ (Nat.lt_irrefl _),?_,Nat.lt_succ_self _,Nat.le_succ _⟩
        ·simp only[SV.den,hx]
         rw[hr]
         simp[SV.den,Bd.put]
        ·refine⟨h.heap.add _ _ _ ?_ hnok ?_,kS h.tmps (Bd.put_agree b _ _ _ (Nat.lt_irrefl _)) (fun n h=>Nat.lt_succ_of_lt h),(h.below.drew).alloc h.base _,fun k hk=>by rw[World.size_alloc];exact Nat.lt_succ_of_lt (h.base k hk),h.nt,h.kept⟩
         ·refine⟨by simp[Bd.put],by simp only[Bd.put,if_true];exact fun hc=>Nat.lt_irrefl _ (h.base _ hc),_,by simp only[Bd.put,if_true];exact heap_alloc_new w.drew _,?_,?_,?_⟩
          ·simp only[Array.size_append,List.size_toArray,size_zeroCells,hlenD,c2,Bd.put,if_true]
           rw[<-Nat.add_mul];congr 1;omega
          ·simp only[Array.size_append,List.size_toArray,zk];omega
          ·intro j u hj
           have hag:zM b (b.put S.next w.heap.size 0 (grownCap w m 0 e)) (· <S.next):=Bd.put_agree b _ _ _ (Nat.lt_irrefl _)
           rw[SV.den_agree hag u (ka hnok hj)]
           have hl:j<news.length:=(List.getElem?_eq_some_iff.1 hj).1
           rw[Array.getElem?_append_left (by simp[zk];exact hl)]
           simp[qm,hj]
         ·intro n e' hf hg
          have hlt:=(h.heap.mem n e' hf hg).2.1.lt h.base
          exact⟨heap_alloc_old w.drew _ _ hlt,fun _=>Nat.ne_of_lt hlt⟩
       ·cases hs
      ·rename_i n len
       split at hs
       ·rename_i eh hf
        split at hs
        ·rename_i hb
         obtain⟨b1,b2,b3,b4,b5,b6⟩:=hb
         cases hs
         have hg:qq ρ eh.g:=by have:eh.g=[]:=by simpa using b1
                               rw[this];intro _ h;cases h
         obtain⟨m1,m2,m3⟩:=h.heap.mem n eh hf hg
         have hown:eh.blk.own=true:=by simp[Blk.own,b2]
         have hbs:=m2.base hown
         have hm2:=m2
         unfold Blk.ok at m2
         rw[b2]at m2
         dsimp only at m2
         obtain⟨a1,a2,arr,a3,a4,a5,a6⟩:=m2
         rw[b3]at a3
         have hag:∀β κ,zM b (b.put S.next β 0 κ) (· <S.next):=fun β κ=>Bd.put_agree b _ _ _ (Nat.lt_irrefl _)
         have hallok:SV.okL ρ (· <S.next) (eh.blk.cells++news):=(qo _ _ _).2 fun y hy=>by
          rcases List.mem_append.1 hy with hy|hy
          ·exact(qo _ _ _).1 m3 y hy
          ·exact(qo _ _ _).1 hnok y hy
         have hsd:(SV.sl n 0 len none).den ρ b= .slice (some ⟨b.β n,0,none⟩) len (b.κ n):=by simp[SV.den,hbs.2.2]
         have holds:∀(j:Nat) (u:Value),(SV.denL ρ b eh.blk.cells)[j]? =some u->arr[j]? =some u:=by
          intro j u hj
          rw[qm]at hj
          cases hq:eh.blk.cells[j]? with
          |none=>rw[hq]at hj;cases hj
          |some y=>rw[hq]at hj;cases hj;exact a6 j y hq
         by_cases hroom:len+m<=b.κ n
         ·have hfit:len*i.size+(SV.denL ρ b news).length<=arr.size:=by rw[hlenD,a4,<-Nat.add_mul];exact Nat.mul_le_mul_right _ hroom
          have hone:∀u∈SV.denL ρ b news,u.oneCell'=true:=by
           intro u hu
           rw[zW,List.mem_map]at hu
           obtain⟨y,hy,rfl⟩:=hu
           exact(SV.isOne_den (List.all_eq_true.1 c3 y hy) ρ b).1
          have hr:=run_append_room (P:=P) w t ty e i hu hi (b.β n) len (b.κ n) arr a3 a m c (SV.denL ρ b news) hlenD hcell hone hroom hfit
          refine⟨b.put S.next (b.β n) 0 (b.κ n),w.setRow (b.β n) (arr.toList.take (len*i.size)++SV.denL ρ b news++arr.toList.drop (len*i.size+(SV.denL ρ b news).length)).toArray,?_,hag _ _,?_,Nat.lt_succ_self _,Nat.le_succ _⟩
          ·rw[hsd,hx,hr]
           simp[SV.den,Bd.put]
          ·refine⟨(h.heap.del n).add _ _ _ ?_ hallok ?_,kS h.tmps (hag _ _) (fun n h=>Nat.lt_succ_of_lt h),?_,by have:=h.base;simpa using this,h.nt,h.kept⟩
           ·refine⟨by simp[Bd.put],by simp only[Bd.put,if_true];exact hbs.1,_,by simp only[Bd.put,if_true];exact setRow_heap w (b.β n) arr _ e _ a3,?_,?_,?_⟩
            ·simp only[List.size_toArray,List.length_append,List.length_take,List.length_drop,Array.length_toList,Bd.put,if_true]
             rw[<-a4];omega
            ·simp only[List.size_toArray,List.length_append,List.length_take,List.length_drop,Array.length_toList,zk]
             rw[b4]at*
             have:news.length=m*i.size:=hlen
             omega
            ·intro j u hj
             rw[SV.den_agree (hag _ _) u (ka hallok hj)]
             have e1:arr.toList.take (len*i.size)=SV.denL ρ b eh.blk.cells:=by
              apply List.ext_getElem?
              intro q
              rw[List.getElem?_take]
              split
              ·rename_i hq
               have:q<(SV.denL ρ b eh.blk.cells).length:=by rw[zk,b4];exact hq
               rw[List.getElem?_eq_getElem this]
               have:=holds q _ (List.getElem?_eq_getElem this)
               simpa using this
              ·rename_i hq
               rw[List.getElem?_eq_none]
               rw[zk,b4];omega
             rw[e1]
             have:((SV.denL ρ b eh.blk.cells++SV.denL ρ b news)++arr.toList.drop (len*i.size+(SV.denL ρ b news).length)).toArray[j]? =some (u.den ρ b):=by
              rw[List.getElem?_toArray,List.getElem?_append_left]
              ·have e2:SV.denL ρ b eh.blk.cells++SV.denL ρ b news=SV.denL ρ b (eh.blk.cells++news):=by simp[zW]
               rw[e2,qm,hj];rfl
              ·have:=(List.getElem?_eq_some_iff.1 hj).1
               simpa [zk]using this
             exact this
           ·intro p e' hpf hpg
            rw[wu]at hpf
            split at hpf
            ·cases hpf
            ·rename_i hne
             have hp:=h.heap.mem p e' hpf hpg
             have hnb:b.β p≠b.β n:=by
              intro heq
              by_cases hop:e'.blk.own=true
              ·exact hne (h.heap.inj n p eh e' hf hpf hg hpg hown hop heq.symm)
              ·have h2:=hp.2.1
               unfold Blk.ok at h2
               unfold Blk.own at hop
               split at h2
               ·simp_all
               ·simp_all
               ·have h3:=h2.1;rw[heq]at h3;exact hbs.1 h3
               ·simp_all
             exact⟨setRow_other w (b.β n) _ _ hnb,fun _=>hnb⟩
           ·have hbel:=h.below
            exact⟨hbel.os,hbel.tape,hbel.output,by simpa using hbel.size,fun k hk=>by
             rw[setRow_other w (b.β n) k _ (fun e=>hbs.1 (e▸hk))];exact hbel.block k hk⟩
         ·have hr:=run_append_grow (P:=P) w t ty e i z hu hi hz ⟨b.β n,0,none⟩ len (b.κ n) (SV.denL ρ b eh.blk.cells) (by rw[zk,b4]) (fun j u hj=>by
            have:=holds j u hj
            have hadd:(⟨b.β n,0,none⟩:Addr).add j=⟨b.β n,j,none⟩:=by unfold Addr.add;split<;>simp_all
            rw[hadd]
            simp[World.cell?,a3,this]) a m c (SV.denL ρ b news) hlenD hcell (by omega) (by omega) (growslice_fits (by omega) (by omega))
          have hge:=grownCap_ge w (len+m) (b.κ n) e
          refine⟨b.put S.next w.heap.size 0 (grownCap w (len+m) (b.κ n) e),w.drew.alloc (.cells ((SV.denL ρ b eh.blk.cells).toArray++(SV.denL ρ b news).toArray++Builtin.zeroCells z.cells (grownCap w (len+m) (b.κ n) e-(len+m))) e),?_,hag _ _,?_,Nat.lt_succ_self _,Nat.le_succ _⟩
          ·rw[hsd,hx,hr]
           simp[SV.den,Bd.put]
          ·refine⟨(h.heap.del n).add _ _ _ ?_ hallok ?_,kS h.tmps (hag _ _) (fun n h=>Nat.lt_succ_of_lt h),(h.below.drew).alloc h.base _,fun k hk=>by rw[World.size_alloc];exact Nat.lt_succ_of_lt (h.base k hk),h.nt,h.kept⟩
           ·refine⟨by simp[Bd.put],by simp only[Bd.put,if_true];exact fun hc=>Nat.lt_irrefl _ (h.base _ hc),_,by simp only[Bd.put,if_true];exact heap_alloc_new w.drew _,?_,?_,?_⟩
            ·simp only[Array.size_append,List.size_toArray,size_zeroCells,hlenD,zk,b4,c2,Bd.put,if_true]
             rw[<-Nat.add_mul,<-Nat.add_mul];congr 1;omega
            ·simp only[Array.size_append,List.size_toArray,zk,List.length_append];omega
            ·intro j u hj
             rw[SV.den_agree (hag _ _) u (ka hallok hj)]
             have hl:j<(eh.blk.cells++news).length:=(List.getElem?_eq_some_iff.1 hj).1
             rw[Array.getElem?_append_left (by simp[zk];simpa using hl)]
             have e2:(SV.denL ρ b eh.blk.cells).toArray++(SV.denL ρ b news).toArray=(SV.denL ρ b (eh.blk.cells++news)).toArray:=by simp[zW]
             rw[e2,List.getElem?_toArray,qm,hj];rfl
           ·intro p e' hpf hpg
            rw[wu]at hpf
            split at hpf
            ·cases hpf
            ·have hlt:=(h.heap.mem p e' hpf hpg).2.1.lt h.base
             exact⟨heap_alloc_old w.drew _ _ hlt,fun _=>Nat.ne_of_lt hlt⟩
        ·cases hs
       ·cases hs
      ·cases hs
     ·cases hs
    ·cases hs
   ·cases hs
  ·cases hs
 ·cases hs
end Go.Proofs.YtoakpnoajmngmaaGreatDoor.Sx
namespace Go.Proofs.YtoakpnoajmngmaaGreatDoor.Sx
open Go.RowKit (Below)
theorem Rel.putCells {P:Program} {ρ:Env} {b:Bd} {base:Nat->Prop} {w0 w:World} {S:St} {tm:Array Value} (h:Rel ρ b base w0 w S tm) {n off:Nat} {e:HEnt} (hf:zB S.heap n=some e) (h1:e.g=[]) (h2:e.blk.own=true) {vs:List SV} (h4:vs.all SV.isOne=true) (h6:off+vs.length<=e.blk.cells.length) (hvk:SV.okL ρ (· <S.next) vs):
  ∃w',(storeCells ⟨b.β n,off,none⟩ (SV.denL ρ b vs)).run P w= .ok () w'/\Rel ρ b base w0 w' {S with heap:=upd S.heap n ⟨e.g,{e.blk with cells:=JV e.blk.cells off vs}⟩} tm:=by
 have hg:qq ρ e.g:=by rw[h1];intro _ h;cases h
 obtain⟨m1,m2,m3⟩:=h.heap.mem n e hf hg
 have hone:∀u∈SV.denL ρ b vs,u.oneCell'=true:=by
  intro u hu
  rw[zW,List.mem_map]at hu
  obtain⟨y,hy,rfl⟩:=hu
  exact(SV.isOne_den (List.all_eq_true.1 h4 y hy) ρ b).1
 have hb:=m2.base h2
 have key:∃arr:Array Value,w.heap[b.β n]? =some (.cells arr e.blk.elem (0,0))/\e.blk.cells.length<=arr.size/\(∀w',w'.heap[b.β n]? =some (.cells (arr.toList.take off++SV.denL ρ b vs++arr.toList.drop (off+vs.length)).toArray e.blk.elem (0,0))->Blk.ok ρ b base w' n {e.blk with cells:=JV e.blk.cells off vs}):=by
  have hm2:=m2
  unfold Blk.ok at m2
  split at m2
  ·rename_i hkd
   obtain⟨a1,a2,a3⟩:=m2
   refine⟨_,a3,by simp[zk],fun w' hw'=>?_⟩
   unfold Blk.ok
   simp only[hkd]
   refine⟨a1,a2,?_⟩
   rw[hw',zW,zW]
   simp[JV,zW,List.map_take,List.map_drop]
  ·rename_i sz hkd
   obtain⟨a1,a2,arr,a3,a4,a5,a6⟩:=m2
   refine⟨arr,a3,a5,fun w' hw'=>?_⟩
   unfold Blk.ok
   simp only[hkd]
   refine⟨a1,a2,_,hw',?_,?_,?_⟩
   ·rw[<-a4];simp[zk];omega
   ·simp[JV,zk];omega
   ·intro i u hi
    have:=zab (SV.den ρ b) (arr:=arr.toList) h6 (by simpa using a5) (fun i v hi=>by simpa using a6 i v hi) hi
    rw[zW]
    simpa using this
  ·rename_i hkd
   unfold Blk.own at h2
   rw[hkd]at h2
   cases h2
  ·rename_i id hkd
   obtain⟨a1,a2,a3,arr,a4,a5⟩:=m2
   rw[a3]at h6
   simp only[List.length_nil,Nat.le_zero,Nat.add_eq_zero_iff,List.length_eq_zero_iff]at h6
   obtain⟨rfl,hv0⟩:=h6
   refine⟨arr,a4,by rw[a3];exact Nat.zero_le _,fun w' hw'=>?_⟩
   unfold Blk.ok
   simp only[hkd]
   refine⟨a1,a2,by simp[JV,hv0,a3],arr,?_,a5⟩
   rw[hw',hv0]
   simp[SV.denL]
 obtain⟨arr,k1,k2,k3⟩:=key
 have hrun:=run_storeCells_at P (b.β n) off e.blk.elem (SV.denL ρ b vs) 0 arr w k1 (by rw[zk];omega) hone
 refine⟨_,hrun,⟨h.heap.write hf hg h2 (B:= {e.blk with cells:=JV e.blk.cells off vs}) h2 (k3 _ (by
  have:=setRow_heap w (b.β n) arr (arr.toList.take (off+0)++SV.denL ρ b vs++arr.toList.drop (off+0+(SV.denL ρ b vs).length)).toArray e.blk.elem _ k1
  rw[this,zk]
  simp)) (zaa off m3 hvk) (fun k hk=>setRow_other w (b.β n) k _ hk),h.tmps,?_,?_,h.nt,h.kept⟩⟩
 ·have hbel:=h.below
  exact⟨hbel.os,hbel.tape,hbel.output,by simpa using hbel.size,fun k hk=>by
   rw[setRow_other w (b.β n) k _ (fun e=>hb.1 (e▸hk))];exact hbel.block k hk⟩
 ·have:=h.base;simpa using this
def CK.noSlc:CK->Bool| .slc=>false|_=>true
def zae (sh:List CK) (k q:Nat):SV:=(sh[q%sh.length]?.getD .bool).sv k (q%sh.length) (.c (q/sh.length:Nat))
def zo2 (A:List E) (S:St) (size:Nat):SV->Option (Nat × List SV)
 | .sl n off len cap=>(JW A S size (.sl n off len cap)).map fun l=>(len,l)
 | .osl k sh r=>if r.lo=r.hi/\0<=r.lo/\sh.length=size/\sh.all CK.noSlc=true then some (r.lo.toNat,(List.range (r.lo.toNat*sh.length)).map (zae sh k))else none
 |_=>none
theorem zhS {ρ:Env} {b:Bd} {base:Nat->Prop} {w0 w:World} {S:St} {tm:Array Value} {A:List E} (h:Rel ρ b base w0 w S tm) (hA:qq ρ A) {size:Nat} (h0:0<size) {x:SV} (hxo:x.ok ρ (· <S.next)) {n:Nat} {cs:List SV} (hx:zo2 A S size x=some (n,cs)):
  ∃oa c,x.den ρ b= .slice oa n c/\cs.length=n*size/\SV.okL ρ (· <S.next) cs/\(0<n->∃a,oa=some a/\∀j u,(SV.denL ρ b cs)[j]? =some u->w.cell? (a.add j)=some u):=by
 unfold zo2 at hx
 split at hx
 ·rename_i m off len cap
  rw[Option.map_eq_some_iff]at hx
  obtain⟨l,hl,he⟩:=hx
  cases he
  obtain⟨a,q,c,e1,e2,e3,e4⟩:=JX h hA hl
  simp only[SV.den]at e1
  cases e1
  exact⟨_,_,rfl,e2,e3,fun _=>⟨_,rfl,e4⟩⟩
 ·rename_i k sh r
  split at hx
  ·rename_i hc
   obtain⟨c1,c2,c3,c4⟩:=hc
   cases hx
   obtain⟨o1,o2,o3,o4⟩:=hxo
   have hlen:r.e.i ρ=r.lo:=by have h1:=o1.1;have h2:=o1.2;omega
   have hval:∀q,q<r.lo.toNat*sh.length->∃c,sh[q%sh.length]? =some c/\c.fits ρ k (q%sh.length) (q/sh.length:Nat)/\(ρ.mv k)[q]? =some (c.val ρ k (q%sh.length) (q/sh.length:Nat)):=by
    intro q hq
    have hp:0<sh.length:=by omega
    have hm:=Nat.mod_lt q hp
    have hd:q/sh.length<r.lo.toNat:=by rw[Nat.div_lt_iff_lt_mul hp];exact hq
    have:=o3 (q/sh.length) (by rw[hlen];omega) (q%sh.length) sh[q%sh.length] (by simp[hm])
    refine⟨sh[q%sh.length],by simp[hm],this.2,?_⟩
    rw[<-this.1]
    congr 1
    rw[Nat.mul_comm]
    exact(Nat.div_add_mod q sh.length).symm
   refine⟨(ρ.ov k).1,(ρ.ov k).2,by simp only[SV.den,hlen],by simp[c3],?_,fun hn=>?_⟩
   ·rw[qo]
    intro v hv
    rw[List.mem_map]at hv
    obtain⟨q,hq,rfl⟩:=hv
    obtain⟨c,e1,e2,e3⟩:=hval q (by simpa using hq)
    unfold zae
    rw[e1]
    exact CK.sv_ok (by simpa [E.i]using e2)
   ·have hm:=h.kept.kept h.below
    obtain⟨c0,z1,z2,z3⟩:=hval 0 (by rw[c3];exact Nat.mul_pos hn h0)
    obtain⟨p,off,g1,g2,g3⟩:=hm.1 k 0 _ z3
    refine⟨_,g1,fun j u hj=>?_⟩
    rw[qm]at hj
    simp only[List.getElem?_map]at hj
    cases hr:(List.range (r.lo.toNat*sh.length))[j]? with
    |none=>rw[hr]at hj;cases hj
    |some q=>
     rw[hr]at hj
     simp only[Option.map_some,Option.some.injEq]at hj
     obtain⟨hq,rfl⟩:j<r.lo.toNat*sh.length/\j=q:=by
      rw[List.getElem?_eq_some_iff]at hr
      obtain⟨h5,h6⟩:=hr
      simp at h5 h6
      exact⟨h5,h6⟩
     obtain⟨c,e1,e2,e3⟩:=hval j hq
     obtain⟨p',off',g1',g2',g3'⟩:=hm.1 k j _ e3
     rw[g1]at g1'
     cases g1'
     rw[show(⟨p,off,none⟩:Addr).add j=⟨p,off+j,none⟩by unfold Addr.add;split<;>simp_all,g3',<-hj]
     unfold zae
     rw[e1]
     simp[CK.sv_den,E.i]
  ·cases hx
 ·cases hx
def zhT (P:Program) (A:List E) (S:St) (t:TypeId) (d s:SV):Option (SV × St):=
 if A.isEmpty=true then
  match P.underlying t with
  |some (.slice e)=>
   match yu P e,d with
   |some size,.sl n off len _=>
    match zo2 A S size s,zB S.heap n with
    |some (slen,cells),some h=>
     let m:=Nat.min slen len
     let cs:=cells.take (m*size)
     if 0<size/\h.g.isEmpty=true/\h.blk.own=true/\cs.all SV.isOne=true/\off+cs.length<=h.blk.cells.length
     then some (.int .i64 ⟨.c m,m,m⟩,{S with heap:=upd S.heap n ⟨h.g,{h.blk with cells:=JV h.blk.cells off cs}⟩})else none
    |_,_=>none
   |_,_=>none
  |_=>none
 else none
theorem zdu {P:Program} {A:List E} {S S':St} {t t' ty:TypeId} {d s v:SV} (hs:zhT P A S t d s=some (v,S')) {ρ:Env} {b:Bd} {base:Nat->Prop} {w0 w:World} {tm:Array Value} (h:Rel ρ b base w0 w S tm) (hA:qq ρ A) (hsok:s.ok ρ (· <S.next)):
  ∃w',(Builtin.copy_ #[t,t'] ty #[d.den ρ b,s.den ρ b]).run P w= .ok (v.den ρ b) w'/\Rel ρ b base w0 w' S' tm/\v.ok ρ (· <S'.next)/\S.next=S'.next:=by
 unfold zhT at hs
 split at hs
 ·split at hs
  ·rename_i e hu
   split at hs
   ·rename_i size n off len cap hsz
    split at hs
    ·rename_i slen cells eh hsrc hf
     dsimp only at hs
     split at hs
     ·rename_i hc
      obtain⟨c0,c1,c2,c3,c4⟩:=hc
      cases hs
      obtain⟨oa,c,e1,e2,e3,e4⟩:=zhS h hA c0 hsok hsrc
      have hg:eh.g=[]:=by simpa using c1
      have hb:=((h.heap.mem n eh hf (by rw[hg];intro _ h;cases h)).2.1).base c2
      obtain⟨w',hr,hrel⟩:=h.putCells (P:=P) hf hg c2 c3 c4 ((qo _ _ _).2 fun y hy=>(qo _ _ _).1 e3 y (List.mem_of_mem_take hy))
      have hlen:(SV.denL ρ b (cells.take (Nat.min slen len*size))).length=Nat.min slen len*size:=by
       rw[zk,List.length_take,e2]
       exact Nat.min_eq_left (Nat.mul_le_mul_right _ (Nat.min_le_left _ _))
      have hld:(Builtin.firstCells size (Nat.min slen len) (.slice oa slen c)).run P w= .ok (SV.denL ρ b (cells.take (Nat.min slen len*size))).toArray w:=by
       by_cases h0:0<slen
       ·obtain⟨a,rfl,hcell⟩:=e4 h0
        have:=run_loadCells_list (P:=P) w a (SV.denL ρ b (cells.take (Nat.min slen len*size))) (fun j u hj=>by
         rw[qm,List.getElem?_take]at hj
         split at hj
         ·exact hcell j u (by rw[qm];exact hj)
         ·cases hj)
        rw[hlen]at this
        exact this
       ·obtain rfl:slen=0:=by omega
        have hm:Nat.min 0 len=0:=Nat.min_eq_left (Nat.zero_le _)
        rw[hm]
        cases oa with
        |none=>simp[Builtin.firstCells,SV.denL]
        |some a=>
         have:=run_loadCells_list (P:=P) w a [] (fun j u hj=>by simp at hj)
         simp only[Builtin.firstCells,Nat.zero_mul,List.take_zero,SV.denL]
         exact this
      have ho:b.o n+off=off:=by rw[hb.2.2];omega
      have hsz':∃i,P.info? e=some i/\i.size=size:=by
       unfold yu at hsz
       rw[Option.map_eq_some_iff]at hsz
       exact hsz
      obtain⟨i,hi,hisz⟩:=hsz'
      refine⟨w',?_,hrel,⟨Int.le_refl _,Int.le_refl _⟩,rfl⟩
      rw[e1]
      simp[SV.den,Builtin.copy_,run_underlying hu,Builtin.lenOf,sizeOf,typeInfo,hi,hisz,hld,ho,hr,E.i,goInt]
     ·cases hs
    ·cases hs
   ·cases hs
  ·cases hs
 ·cases hs
end Go.Proofs.YtoakpnoajmngmaaGreatDoor.Sx
namespace Go.Proofs.YtoakpnoajmngmaaGreatDoor.Sx
open Go.RowKit (Below)
def zmp (z:Array Value) (n:Nat):List SV:=(List.range n).map fun i=>SV.ofValue (z[i%z.size]!)
theorem Gr (ρ:Env) (b:Bd) (z:Array Value) (n:Nat):(SV.denL ρ b (zmp z n)).toArray=(Array.range n).map (z[· %z.size]!):=by
 apply Array.ext'
 rw[zmp,zW,List.map_map]
 simp[Array.toList_range,Function.comp_def,SV.ofValue_den]
theorem zaf (ρ:Env) (N:Nat->Prop) (z:Array Value) (n:Nat):SV.okL ρ N (zmp z n):=
 (qo _ _ _).2 fun v hv=>by
  obtain⟨x,_,rfl⟩:=List.mem_map.1 hv
  exact SV.ofValue_ok ρ N _
def Zt (P:Program) (e:TypeId) (n:Nat):Option (Array Value):=if n=0 then some #[]else(M5 P e).map (·.cells)
theorem Zu {P:Program} {e:TypeId} {n:Nat} {z:Array Value} (h:Zt P e n=some z) (w:World):(if n=0 then pure #[]else do pure (<-zeroValue e).cells:Sem (Array Value)).run P w= .ok z w:=by
 unfold Zt at h
 split at h
 ·rename_i h0;cases h;simp[h0]
 ·rename_i h0
  rw[Option.map_eq_some_iff]at h
  obtain⟨v,hv,rfl⟩:=h
  simp[h0,yR hv]
def Gs:SV->Option Nat
 | .int .i64 r=>if r.lo=r.hi/\0<=r.lo then some r.lo.toNat else none
 |_=>none
theorem JY {x:SV} {n:Nat} (h:Gs x=some n) {ρ:Env} {b:Bd} {N:Nat->Prop} (hx:x.ok ρ N):x.den ρ b= .int .i64 (n:Int):=by
 unfold Gs at h
 split at h
 ·split at h
  ·rename_i r hc
   cases h
   have:r.e.i ρ=r.lo:=by have:=hx.1;have:=hx.2;omega
   simp only[SV.den,this];congr 1;omega
  ·cases h
 ·cases h
def opN (P:Program) (A:List E) (S:St) (o:Oper):Option (SV × List SV × TypeId):=
 match o.op with
 | .alloc t=>(M5 P t).map fun z=>(.ptr S.next 0,VD z,t)
 | .box t x=>match ev A S x with
   |some v=>if x7 v=true then some (.ptr S.next 0,v.cells,t)else none
   |none=>none
 | .buildSlice t len parts=>
   match P.underlying t,mb A S parts.toList with
   |some (.slice e),some ps=>match yu P e with
    |some size=>if len*size<=2^24 then
      match Zt P e (len*size)with
      |some z=>match VB (fun i=>some (i*size,size)) (zmp z (len*size)) ps with
       |some cs=>some (.sl S.next 0 len (some len),cs,e)
       |none=>none
      |none=>none
     else none
    |none=>none
   |_,_=>none
 | .makeSlice t l c=>
   match P.underlying t,ev A S l,ev A S c with
   |some (.slice e),some lv,some cv=>match Gs lv,Gs cv,P.info? e with
    |some n,some k,some i=>if n<=k/\i.bytes*k<=1000000000/\k<=1000000 then
      match Zt P e (k*i.size)with
      |some z=>some (.sl S.next 0 n (some k),zmp z (k*i.size),e)
      |none=>none
     else none
    |_,_,_=>none
   |_,_,_=>none
 |_=>none
def opW (P:Program) (A:List E) (S:St) (o:Oper):Option (SV × St):=
 match o.op with
 | .store t x v=>match ev A S x,ev A S v with
   |some p,some u=>(zac P A S t p u).map fun S'=>(.tup [],S')
   |_,_=>none
 | .call {callee:= .builtin .append,args:=args,argTypes:=ts}=>match args.toList,ts.toList with
   |[x,y],[t,t']=>match ev A S x,ev A S y with
    |some s,some u=>Ys P A S t t' s u
    |_,_=>none
   |_,_=>none
 | .call {callee:= .builtin .copy,args:=args,argTypes:=ts}=>match args.toList,ts.toList with
   |[x,y],[t,_]=>match ev A S x,ev A S y with
    |some d,some s=>zhT P A S t d s
    |_,_=>none
   |_,_=>none
 |_=>none
def leaves (P:Program) (o:Oper) (a:Act) (w:World) (v:Value) (w':World):Prop:=
 (execOp a.eval o).run P w= .ok (.value v) w'\/((execOp a.eval o).run P w= .ok .skip w'/\v=undef)
theorem zmq {P:Program} {ρ:Env} {b:Bd} {base:Nat->Prop} {w0 w:World} {S:St} {a:Act} {A:List E} (h:Rel ρ b base w0 w S a.tmps) (hA:qq ρ A) {o:Oper} {v:SV} {cells:List SV} {elem:TypeId} (ho:opN P A S o=some (v,cells,elem)):
  leaves P o a w (v.den ρ (b.put S.next w.heap.size 0 0)) (w.alloc (.cells (SV.denL ρ b cells).toArray elem))/\SV.okL ρ (· <S.next) cells/\v.ok ρ (· <S.next+1):=by
 unfold opN at ho
 split at ho
 ·rename_i t hop
  rw[Option.map_eq_some_iff]at ho
  obtain⟨z,hz,he⟩:=ho
  cases he
  refine⟨.inl ?_,QE ρ _ z,Nat.lt_succ_self _⟩
  rw[mc]
  simp[execOp,hop,Instr.alloc,yR hz,newVar,newRow,SV.den,Bd.put]
 ·rename_i t x hop
  split at ho
  ·rename_i u hx
   split at ho
   ·rename_i h1
    cases ho
    have e1:=qf h hA hx
    refine⟨.inl ?_,SV.cells_ok e1.2,Nat.lt_succ_self _⟩
    rw[<-SV.cells_den ρ b (xF h1)]
    simp[execOp,hop,Instr.box,e1.1,newVar,newRow,SV.den,Bd.put]
   ·cases ho
  ·cases ho
 ·rename_i t len parts hop
  split at ho
  ·rename_i e ps hu hps
   split at ho
   ·rename_i size hs
    split at ho
    ·rename_i hle
     split at ho
     ·rename_i z hz
      split at ho
      ·rename_i cs hcs
       cases ho
       have e1:=Zs h hA hps
       have hf:=QD (b:=b) ps _ _ hcs (zaf ρ _ z _) e1.2
       rw[Gr]at hf
       refine⟨.inl ?_,hf.2,Nat.lt_succ_self _⟩
       have hz':=Zu hz w
       have hpa:(parts.map fun(i,x)=>(i,a.eval x)).toList=ps.map fun x=>(x.1,x.2.den ρ b):=by rw[Array.toList_map];exact e1.1
       simp only[execOp,hop,Instr.buildSlice,Sem.run_bind,run_underlying hu,Result.andThen,qi hs]
       rw[if_neg (by omega)]
       unfold Zt at hz
       by_cases h0:len*size=0
       ·have hf1:=hf.1
        rw[if_pos h0]at hz
        cases hz
        simp[h0]at hf1
        simp[h0,e1.1,hf1,newRow,SV.den,Bd.put]
       ·have hf1:=hf.1
        rw[if_neg h0,Option.map_eq_some_iff]at hz
        obtain⟨zv,hzv,rfl⟩:=hz
        simp[h0,e1.1,yR hzv,hf1,newRow,SV.den,Bd.put]
      ·cases ho
     ·cases ho
    ·cases ho
   ·cases ho
  ·cases ho
 ·rename_i t l c hop
  split at ho
  ·rename_i e lv cv hu hl hc
   split at ho
   ·rename_i n k i hln hck hi
    split at ho
    ·rename_i hb
     obtain⟨b1,b2,b3⟩:=hb
     split at ho
     ·rename_i z hz
      cases ho
      have e1:=qf h hA hl
      have e2:=qf h hA hc
      have d1:=JY hln (b:=b) e1.2
      have d2:=JY hck (b:=b) e2.2
      refine⟨.inl ?_,zaf ρ _ z _,Nat.lt_succ_self _⟩
      rw[Gr]
      have hz':=Zu hz w
      have w1:IntKind.i64.wrap (n:Int)=n:=IntWalk.i64_in _ (by omega)
      have w2:IntKind.i64.wrap (k:Int)=k:=IntWalk.i64_in _ (by omega)
      have w3:((i.bytes:Int)*(k:Int))=((i.bytes*k:Nat):Int):=by simp
      have t1:(decide ((k:Int)<0)||decide ((i.bytes:Int)*(k:Int)>2^48))=false:=by
       rw[w3];simp;omega
      simp only[execOp,hop,Instr.makeSlice,Sem.run_bind,run_underlying hu,Result.andThen,e1.1,e2.1,d1,d2,asInt,asIntOf,Sem.run_pure,typeInfo,run_program,hi,w1,w2]
      rw[if_neg (by simp[t1];omega)]
      unfold Zt at hz
      by_cases h0:k*i.size=0
      ·rw[if_pos h0]at hz
       cases hz
       simp[h0,sizeOf,typeInfo,hi,newRow,SV.den,Bd.put]
      ·rw[if_neg h0,Option.map_eq_some_iff]at hz
       obtain⟨zv,hzv,rfl⟩:=hz
       simp[h0,sizeOf,typeInfo,hi,yR hzv,newRow,SV.den,Bd.put]
     ·cases ho
    ·cases ho
   ·cases ho
  ·cases ho
 ·cases ho
theorem zmr {P:Program} {ρ:Env} {b:Bd} {base:Nat->Prop} {w0 w:World} {S S':St} {a:Act} {A:List E} (h:Rel ρ b base w0 w S a.tmps) (hA:qq ρ A) {o:Oper} {v:SV} (ho:opW P A S o=some (v,S')):
  ∃b' w',leaves P o a w (v.den ρ b') w'/\zM b b' (· <S.next)/\Rel ρ b' base w0 w' S' a.tmps/\v.ok ρ (· <S'.next)/\S.next<=S'.next:=by
 unfold opW at ho
 split at ho
 ·rename_i t x u hop
  split at ho
  ·rename_i p y hp hy
   rw[Option.map_eq_some_iff]at ho
   obtain⟨S1,hs,he⟩:=ho
   cases he
   have e1:=qf h hA hp
   have e2:=qf h hA hy
   obtain⟨w',hr,hrel,hnx⟩:=zad hs h e2.2
   refine⟨b,w',.inr ⟨?_,rfl⟩,zM.refl b _,hrel,trivial,by omega⟩
   simp[execOp,hop,e1.1,e2.1,hr]
  ·cases ho
 ·rename_i args ts hop
  split at ho
  ·rename_i x y t t' hx ht
   split at ho
   ·rename_i s u hs hu
    have e1:=qf h hA hs
    have e2:=qf h hA hu
    obtain⟨b',w',hr,ha,hrel,hok,hle⟩:=VG (ty:=o.type) ho h hA e1.2
    refine⟨b',w',.inl ?_,ha,hrel,hok,hle⟩
    obtain rfl:args=#[x,y]:=by apply Array.ext';simpa using hx
    obtain rfl:ts=#[t,t']:=by apply Array.ext';simpa using ht
    simp[execOp,hop,resolve,invoke,builtin,e1.1,e2.1,hr]
   ·cases ho
  ·cases ho
 ·rename_i args ts hop
  split at ho
  ·rename_i x y t t' hx ht
   split at ho
   ·rename_i d s hd hs
    have e1:=qf h hA hd
    have e2:=qf h hA hs
    obtain⟨w',hr,hrel,hok,hnx⟩:=zdu (t':=t') (ty:=o.type) ho h hA e2.2
    refine⟨b,w',.inl ?_,zM.refl b _,hrel,hok,by omega⟩
    obtain rfl:args=#[x,y]:=by apply Array.ext';simpa using hx
    obtain rfl:ts=#[t,t']:=by apply Array.ext';simpa using ht
    simp[execOp,hop,resolve,invoke,builtin,e1.1,e2.1,hr]
   ·cases ho
  ·cases ho
 ·cases ho
theorem yv {P:Program} {o:Oper} {a:Act} {w w':World} {v:Value} (h:leaves P o a w v w') {K:Act->World->Prop} {Q:Exit->Act->World->Prop} (hk:K (a.put o.dst v) w'):o.wp P a w K Q:=by
 unfold Oper.wp
 rcases h with h|⟨h,rfl⟩<;>rw[h]<;>exact hk
end Go.Proofs.YtoakpnoajmngmaaGreatDoor.Sx
namespace Go.Proofs.YtoakpnoajmngmaaGreatDoor.Sx
open Go.RowKit (Below)
inductive T (α:Type) where
 |leaf (x:α)
 |node (c:E) (t u:T α)
 deriving Inhabited
def T.at {α:Type} (ρ:Env):T α->α
 | .leaf x=>x
 | .node c t u=>if c.b ρ=true then t.at ρ else u.at ρ
structure VC where
 pc:List E
 e:E
 deriving Repr,Inhabited
def qN (n:Nat) (a:E):VC:=⟨[],.bin .eq (.v n) a⟩
def qB (n:Nat) (a:E):VC:=⟨[],.ite (.bv n) a (.un .not a)⟩
def pA (a b:E):E:= .bin .add a b
def pS (a b:E):E:= .bin .sub a b
def pM (a b:E):E:= .bin .mul a b
def pT (a b:E):E:= .bin .lt a b
def pL (a b:E):E:= .bin .le a b
def pQ (a b:E):E:= .bin .eq a b
def pN (a b:E):E:= .bin .and a b
def pO (a b:E):E:= .bin .or a b
def pX (a b:E):E:= .bin .max a b
def pU (a:E):E:= .un .not a
def VC.holds (ρ:Env) (v:VC):Prop:=qq ρ v.pc->v.e.b ρ=true
def jx (ρ:Env) (l:List VC):Prop:=∀v∈l,v.holds ρ
theorem qz {ρ:Env} {l m:List VC}:jx ρ (l++m)↔jx ρ l/\jx ρ m:=by
 unfold jx
 simp only[List.mem_append]
 exact⟨fun h=>⟨fun v hv=>h v (.inl hv),fun v hv=>h v (.inr hv)⟩,fun h v hv=>hv.elim (h.1 v) (h.2 v)⟩
theorem jR {ρ:Env} {e:E} {l:List E} (h:e.b ρ=true) (hl:qq ρ l):qq ρ (e::l):=by
 intro x hx
 cases hx with
 |head=>exact h
 |tail _ hx=>exact hl x hx
theorem zq (ρ:Env):qq ρ []:=fun _ h=>by cases h
def T.bind {α β:Type} (f:List E->α->Option (T β × List VC)):List E->T α->Option (T β × List VC)
 |pc,.leaf x=>f pc x
 |pc,.node c t u=>match T.bind f (c::pc) t,T.bind f (jz c::pc) u with
  |some (t',v),some (u',v')=>some (.node c t' u',v++v')
  |_,_=>none
theorem T.bind_ok {α β:Type} {f:List E->α->Option (T β × List VC)} {ρ:Env}:∀ {t:T α} {pc:List E} {r:T β} {vs:List VC},T.bind f pc t=some (r,vs)->qq ρ pc->jx ρ vs->
  ∃pc' r' vs',f pc' (t.at ρ)=some (r',vs')/\qq ρ pc'/\jx ρ vs'/\r.at ρ=r'.at ρ:=by
 intro t
 induction t with
 |leaf x=>intro pc r vs h hpc hv;exact⟨pc,r,vs,h,hpc,hv,rfl⟩
 |node c t u iht ihu=>
  intro pc r vs h hpc hv
  simp only[T.bind]at h
  split at h
  ·rename_i t' v u' v' h1 h2
   cases h
   rw[qz]at hv
   by_cases hc:c.b ρ=true
   ·obtain⟨pc',r',vs',a1,a2,a3,a4⟩:=iht h1 (jR hc hpc) hv.1
    exact⟨pc',r',vs',by simp only[T.at,hc,if_true];exact a1,a2,a3,by simp only[T.at,hc,if_true];exact a4⟩
   ·have hc':(jz c).b ρ=true:=by rw[q7];simpa using hc
    obtain⟨pc',r',vs',a1,a2,a3,a4⟩:=ihu h2 (jR hc' hpc) hv.2
    exact⟨pc',r',vs',by simp only[T.at,hc,if_false];exact a1,a2,a3,by simp only[T.at,hc,if_false];exact a4⟩
  ·cases h
mutual
def E.tells:E->R->R
 | .bin .lt x y,r=>
   match x,y with
   |x,.c z=>if x.same r.e then⟨r.e,r.lo,gZ r.hi (z-1)⟩else r
   | .c z,y=>if y.same r.e then⟨r.e,ws r.lo (z+1),r.hi⟩else r
   |_,_=>r
 | .bin .le x y,r=>
   match x,y with
   |x,.c z=>if x.same r.e then⟨r.e,r.lo,gZ r.hi z⟩else r
   | .c z,y=>if y.same r.e then⟨r.e,ws r.lo z,r.hi⟩else r
   |_,_=>r
 | .bin .eq x y,r=>
   match x,y with
   |x,.c z=>if x.same r.e then⟨.c z,z,z⟩else r
   |_,_=>r
 | .bin .and p q,r=>p.tells (q.tells r)
 | .un .not p,r=>p.denies r
 |_,r=>r
def E.denies:E->R->R
 | .bin .lt x y,r=>
   match x,y with
   |x,.c z=>if x.same r.e then⟨r.e,ws r.lo z,r.hi⟩else r
   | .c z,y=>if y.same r.e then⟨r.e,r.lo,gZ r.hi z⟩else r
   |_,_=>r
 | .bin .le x y,r=>
   match x,y with
   |x,.c z=>if x.same r.e then⟨r.e,ws r.lo (z+1),r.hi⟩else r
   | .c z,y=>if y.same r.e then⟨r.e,r.lo,gZ r.hi (z-1)⟩else r
   |_,_=>r
 | .bin .eq x y,r=>
   match x,y with
   |x,.c z=>if x.same r.e then(if r.lo=z then⟨r.e,z+1,r.hi⟩else if r.hi=z then⟨r.e,r.lo,z-1⟩else r)else r
   |_,_=>r
 | .bin .or p q,r=>p.denies (q.denies r)
 | .un .not p,r=>p.tells r
 |_,r=>r
end
theorem QI {a b c:Int} (h1:a<=b) (h2:a<=c):a<=gZ b c:=by unfold gZ;split<;>omega
theorem QJ {a b c:Int} (h1:a<=c) (h2:b<=c):ws a b<=c:=by unfold ws;split<;>omega
theorem E.tells_ok (ρ:Env):∀(c:E) (r:R),r.ok ρ->(c.b ρ=true->(c.tells r).ok ρ/\(c.tells r).e.i ρ=r.e.i ρ)/\(c.b ρ=false->(c.denies r).ok ρ/\(c.denies r).e.i ρ=r.e.i ρ):=by
 intro c
 induction c with
 |bin o x y ihx ihy=>
  intro r hr
  obtain⟨h1,h2⟩:=hr
  cases o with
  |lt=>
   refine⟨fun h=>?_,fun h=>?_⟩
   ·simp only[E.b,decide_eq_true_eq]at h
    simp only[E.tells]
    split
    ·split
     ·rename_i z hs;rw[E.same_eq hs]at h;simp only[E.i]at h;exact⟨⟨h1,QI h2 (by show r.e.i ρ<=_;omega)⟩,rfl⟩
     ·exact⟨⟨h1,h2⟩,rfl⟩
    ·split
     ·rename_i z _ hs;rw[E.same_eq hs]at h;simp only[E.i]at h;exact⟨⟨QJ h1 (by show _<=r.e.i ρ;omega),h2⟩,rfl⟩
     ·exact⟨⟨h1,h2⟩,rfl⟩
    ·exact⟨⟨h1,h2⟩,rfl⟩
   ·simp only[E.b,decide_eq_false_iff_not]at h
    simp only[E.denies]
    split
    ·split
     ·rename_i z hs;rw[E.same_eq hs]at h;simp only[E.i]at h;exact⟨⟨QJ h1 (by show _<=r.e.i ρ;omega),h2⟩,rfl⟩
     ·exact⟨⟨h1,h2⟩,rfl⟩
    ·split
     ·rename_i z _ hs;rw[E.same_eq hs]at h;simp only[E.i]at h;exact⟨⟨h1,QI h2 (by show r.e.i ρ<=_;omega)⟩,rfl⟩
     ·exact⟨⟨h1,h2⟩,rfl⟩
    ·exact⟨⟨h1,h2⟩,rfl⟩
  |le=>
   refine⟨fun h=>?_,fun h=>?_⟩
   ·simp only[E.b,decide_eq_true_eq]at h
    simp only[E.tells]
    split
    ·split
     ·rename_i z hs;rw[E.same_eq hs]at h;simp only[E.i]at h;exact⟨⟨h1,QI h2 (by show r.e.i ρ<=_;omega)⟩,rfl⟩
     ·exact⟨⟨h1,h2⟩,rfl⟩
    ·split
     ·rename_i z _ hs;rw[E.same_eq hs]at h;simp only[E.i]at h;exact⟨⟨QJ h1 (by show _<=r.e.i ρ;omega),h2⟩,rfl⟩
     ·exact⟨⟨h1,h2⟩,rfl⟩
    ·exact⟨⟨h1,h2⟩,rfl⟩
   ·simp only[E.b,decide_eq_false_iff_not]at h
    simp only[E.denies]
    split
    ·split
     ·rename_i z hs;rw[E.same_eq hs]at h;simp only[E.i]at h;exact⟨⟨QJ h1 (by show _<=r.e.i ρ;omega),h2⟩,rfl⟩
     ·exact⟨⟨h1,h2⟩,rfl⟩
    ·split
     ·rename_i z _ hs;rw[E.same_eq hs]at h;simp only[E.i]at h;exact⟨⟨h1,QI h2 (by show r.e.i ρ<=_;omega)⟩,rfl⟩
     ·exact⟨⟨h1,h2⟩,rfl⟩
    ·exact⟨⟨h1,h2⟩,rfl⟩
  |eq=>
   refine⟨fun h=>?_,fun h=>?_⟩
   ·simp only[E.b,decide_eq_true_eq]at h
    simp only[E.tells]
    split
    ·split
     ·rename_i z hs;rw[E.same_eq hs]at h;simp only[E.i]at h;exact⟨⟨Int.le_refl _,Int.le_refl _⟩,h.symm⟩
     ·exact⟨⟨h1,h2⟩,rfl⟩
    ·exact⟨⟨h1,h2⟩,rfl⟩
   ·simp only[E.b,decide_eq_false_iff_not]at h
    simp only[E.denies]
    split
    ·split
     ·rename_i z hs
      rw[E.same_eq hs]at h;simp only[E.i]at h
      split
      ·exact⟨⟨by show z+1<=r.e.i ρ;omega,h2⟩,rfl⟩
      ·split
       ·exact⟨⟨h1,by show r.e.i ρ<=z-1;omega⟩,rfl⟩
       ·exact⟨⟨h1,h2⟩,rfl⟩
     ·exact⟨⟨h1,h2⟩,rfl⟩
    ·exact⟨⟨h1,h2⟩,rfl⟩
  |and=>
   refine⟨fun h=>?_,fun h=>⟨⟨h1,h2⟩,rfl⟩⟩
   simp only[E.b,Bool.and_eq_true]at h
   simp only[E.tells]
   have a:=(ihy r ⟨h1,h2⟩).1 h.2
   have c:=(ihx _ a.1).1 h.1
   exact⟨c.1,c.2.trans a.2⟩
  |or=>
   refine⟨fun h=>⟨⟨h1,h2⟩,rfl⟩,fun h=>?_⟩
   simp only[E.b,Bool.or_eq_false_iff]at h
   simp only[E.denies]
   have a:=(ihy r ⟨h1,h2⟩).2 h.2
   have c:=(ihx _ a.1).2 h.1
   exact⟨c.1,c.2.trans a.2⟩
  |_=>exact⟨fun h=>⟨⟨h1,h2⟩,rfl⟩,fun h=>⟨⟨h1,h2⟩,rfl⟩⟩
 |un o x ih=>
  intro r hr
  cases o with
  |not=>
   refine⟨fun h=>?_,fun h=>?_⟩
   ·simp only[E.b]at h
    simp only[E.tells]
    exact(ih r hr).2 (by simpa using h)
   ·simp only[E.b]at h
    simp only[E.denies]
    exact(ih r hr).1 (by simpa using h)
  |wrap k=>exact⟨fun h=>⟨hr,rfl⟩,fun h=>⟨hr,rfl⟩⟩
 |_=>intro r hr;exact⟨fun h=>⟨hr,rfl⟩,fun h=>⟨hr,rfl⟩⟩
mutual
def SV.under (et:TypeId) (d:E):SV->SV
 | .int k r=> .int k (d.tells r)
 | .bool e=>if e.same d then .bool (.bc true)else if(jz e).same d then .bool (.bc false)else .bool e
 | .err r=>
   let r':=d.tells r
   if r'.lo=0/\r'.hi=0 then .nili else if 1<=r'.lo then .ifc et (.int .i64 r')else .err r'
 | .agg l=> .agg (SV.underL et d l)
 | .ifc t v=> .ifc t (v.under et d)
 | .tup l=> .tup (SV.underL et d l)
 | .osl k sh len=>let r:=d.tells len;if 0<=r.lo then .osl k sh r else .osl k sh len
 |v=>v
def SV.underL (et:TypeId) (d:E):List SV->List SV
 |[]=>[]
 |a::l=>a.under et d::SV.underL et d l
end
mutual
theorem SV.under_ok {et:TypeId} {ρ:Env} (he:ρ.et=et) {d:E} (hd:d.b ρ=true) (b:Bd) {N:Nat->Prop}:(v:SV)->v.ok ρ N->(v.under et d).den ρ b=v.den ρ b/\(v.under et d).ok ρ N
 | .int k r,h=>by
   have:=(E.tells_ok ρ d r h).1 hd
   exact⟨by simp only[SV.under,SV.den,this.2],this.1⟩
 | .bool e,_=>by
   simp only[SV.under]
   split
   ·rename_i hs
    exact⟨by simp only[SV.den,E.same_eq hs,hd,E.b],trivial⟩
   ·split
    ·rename_i hs
     have:(jz e).b ρ=true:=by rw[E.same_eq hs];exact hd
     rw[q7]at this
     exact⟨by simp only[SV.den,E.b];congr 1;cases h:e.b ρ<;>simp_all,trivial⟩
    ·exact⟨rfl,trivial⟩
 | .err r,h=>by
   have ht:=(E.tells_ok ρ d r h).1 hd
   simp only[SV.under]
   split
   ·rename_i h0
    have:r.e.i ρ=0:=by rw[<-ht.2];have:=ht.1.1;have:=ht.1.2;omega
    exact⟨by simp only[SV.den,this,if_true],trivial⟩
   ·split
    ·rename_i h1
     have:¬r.e.i ρ=0:=by rw[<-ht.2];have:=ht.1.1;omega
     exact⟨by simp only[SV.den,this,if_false,ht.2,he],ht.1⟩
    ·exact⟨by simp only[SV.den,ht.2],ht.1⟩
 | .agg l,h=>by
   have:=SV.underL_ok he hd b l h
   exact⟨by simp only[SV.under,SV.den,this.1],this.2⟩
 | .tup l,h=>by
   have:=SV.underL_ok he hd b l h
   exact⟨by simp only[SV.under,SV.den,this.1],this.2⟩
 | .ifc t v,h=>by
   have:=SV.under_ok he hd b v h
   exact⟨by simp only[SV.under,SV.den,this.1],this.2⟩
 | .nilp,h=>⟨rfl,h⟩
 | .ptr _ _,h=>⟨rfl,h⟩
 | .nils,h=>⟨rfl,h⟩
 | .sl _ _ _ _,h=>⟨rfl,h⟩
 | .slv _ _ _,h=>⟨rfl,h⟩
 | .emp _,h=>⟨rfl,h⟩
 | .osl k sh len,h=>by
   have ht:=(E.tells_ok ρ d len h.1).1 hd
   simp only[SV.under]
   split
   ·rename_i h0
    exact⟨by simp only[SV.den,ht.2],ht.1,h0,fun i hi=>h.2.2.1 i (by rw[<-ht.2];exact hi),by rw[ht.2];exact h.2.2.2⟩
   ·exact⟨rfl,h⟩
 | .optr _ _ _ _,h=>⟨rfl,h⟩
 | .esl _ _,h=>⟨rfl,h⟩
 | .nili,h=>⟨rfl,h⟩
 | .nilf,h=>⟨rfl,h⟩
 | .fn _ _,h=>⟨rfl,h⟩
 | .con _,h=>⟨rfl,h⟩
theorem SV.underL_ok {et:TypeId} {ρ:Env} (he:ρ.et=et) {d:E} (hd:d.b ρ=true) (b:Bd) {N:Nat->Prop}:(l:List SV)->SV.okL ρ N l->SV.denL ρ b (SV.underL et d l)=SV.denL ρ b l/\SV.okL ρ N (SV.underL et d l)
 |[],_=>⟨rfl,trivial⟩
 |a::l,h=>by
  have h1:=SV.under_ok he hd b a h.1
  have h2:=SV.underL_ok he hd b l h.2
  exact⟨by simp only[SV.underL,SV.denL,h1.1,h2.1],h1.2,h2.2⟩
end
theorem Blk.ok.cells {ρ:Env} {b:Bd} {base:Nat->Prop} {w:World} {n:Nat} {B:Blk} (h:B.ok ρ b base w n) {cs:List SV} (hc:SV.denL ρ b cs=SV.denL ρ b B.cells):({B with cells:=cs}:Blk).ok ρ b base w n:=by
 have hl:cs.length=B.cells.length:=by have:=congrArg List.length hc;simpa [zk]using this
 have hg:∀(i:Nat) (v:SV),cs[i]? =some v->∃u:SV,B.cells[i]? =some u/\u.den ρ b=v.den ρ b:=by
  intro i v hi
  have:=congrArg (fun l=>l[i]?) hc
  simp only[qm,hi,Option.map_some]at this
  cases hq:B.cells[i]? with
  |none=>rw[hq]at this;cases this
  |some u=>rw[hq]at this;exact⟨u,rfl,by simpa using this.symm⟩
 unfold Blk.ok at h ⊢
 cases hk:B.kind with
 |full=>rw[hk]at h;dsimp only at h ⊢;rw[hc];exact h
 |grow sz=>
  rw[hk]at h
  dsimp only at h ⊢
  obtain⟨h0,h1,arr,h2,h3,h4,h5⟩:=h
  refine⟨h0,h1,arr,h2,h3,by omega,fun i v hi=>?_⟩
  obtain⟨u,hu,he⟩:=hg i v hi
  rw[<-he];exact h5 i u hu
 |far=>
  rw[hk]at h
  dsimp only at h ⊢
  refine⟨h.1,fun i v hi=>?_⟩
  obtain⟨u,hu,he⟩:=hg i v hi
  rw[<-he];exact h.2 i u hu
 |row id=>
  rw[hk]at h
  dsimp only at h ⊢
  exact⟨h.1,h.2.1,List.eq_nil_of_length_eq_zero (by rw[hl,h.2.2.1];rfl),h.2.2.2⟩
theorem ww {α:Type} (f:α->α) (l:List (Nat × α)) (n:Nat):zB (l.map fun x=>(x.1,f x.2)) n=(zB l n).map f:=by
 induction l with
 |nil=>rfl
 |cons a l ih=>
  simp only[List.map_cons,zB,ih]
  split<;>rfl
def yw (et:TypeId) (d:E):List (Nat × HEnt)->List (Nat × HEnt)
 |[]=>[]
 |(n,⟨g,⟨cs,t,kd⟩⟩)::r=>(n,⟨g,⟨SV.underL et d cs,t,kd⟩⟩)::yw et d r
theorem vD (et:TypeId) (d:E) (H:List (Nat × HEnt)):yw et d H=H.map fun x=>(x.1,{x.2 with blk:= {x.2.blk with cells:=SV.underL et d x.2.blk.cells}}):=by
 induction H with
 |nil=>rfl
 |cons a r ih=>obtain⟨n,g,cs,t,kd⟩:=a;simp only[yw,ih,List.map_cons]
def ge (et:TypeId) (d:E):List (Nat × Ent)->List (Nat × Ent)
 |[]=>[]
 |(n,⟨g,x⟩)::r=>(n,⟨g,x.under et d⟩)::ge et d r
theorem JZ (et:TypeId) (d:E) (H:List (Nat × Ent)):ge et d H=H.map fun x=>(x.1,{x.2 with sv:=x.2.sv.under et d}):=by
 induction H with
 |nil=>rfl
 |cons a r ih=>obtain⟨n,g,x⟩:=a;simp only[ge,ih,List.map_cons]
def St.under (et:TypeId) (d:E) (S:St):St:= {S with tmps:=ge et d S.tmps,heap:=yw et d S.heap}
theorem HRel.under {et:TypeId} {ρ:Env} (he:ρ.et=et) {d:E} (hd:d.b ρ=true) {b:Bd} {base:Nat->Prop} {w:World} {H:List (Nat × HEnt)} {N:Nat->Prop} (h:HRel ρ b base w H N):HRel ρ b base w (yw et d H) N where
 mem:=fun n e hf hg=>by
  rw[vD,ww (fun x:HEnt=> {x with blk:= {x.blk with cells:=SV.underL et d x.blk.cells}})]at hf
  rw[Option.map_eq_some_iff]at hf
  obtain⟨e',hf',rfl⟩:=hf
  obtain⟨h1,h2,h3⟩:=h.mem n e' hf' hg
  have:=SV.underL_ok he hd b _ h3
  exact⟨h1,h2.cells this.1,this.2⟩
 inj:=fun n m e k hf hk hg hgk ho hok heq=>by
  rw[vD,ww (fun x:HEnt=> {x with blk:= {x.blk with cells:=SV.underL et d x.blk.cells}})]at hf hk
  rw[Option.map_eq_some_iff]at hf hk
  obtain⟨e',hf',rfl⟩:=hf
  obtain⟨k',hk',rfl⟩:=hk
  exact h.inj n m e' k' hf' hk' hg hgk ho hok heq
theorem Rel.under {et:TypeId} {ρ:Env} (he:ρ.et=et) {d:E} (hd:d.b ρ=true) {b:Bd} {base:Nat->Prop} {w0 w:World} {S:St} {tm:Array Value} (h:Rel ρ b base w0 w S tm):Rel ρ b base w0 w (S.under et d) tm:=by
 refine⟨h.heap.under he hd,fun i e hf=>?_,h.below,h.base,h.nt,h.kept⟩
 rw[St.under]at hf
 simp only at hf
 rw[JZ,ww (fun x:Ent=> {x with sv:=x.sv.under et d})]at hf
 rw[Option.map_eq_some_iff]at hf
 obtain⟨e',hf',rfl⟩:=hf
 obtain⟨h1,h2⟩:=h.tmps i e' hf'
 refine⟨fun hg=>?_,h2⟩
 obtain⟨h3,h4⟩:=h1 hg
 have:=SV.under_ok he hd b _ h4
 exact⟨by rw[this.1];exact h3,this.2⟩
end Go.Proofs.YtoakpnoajmngmaaGreatDoor.Sx
