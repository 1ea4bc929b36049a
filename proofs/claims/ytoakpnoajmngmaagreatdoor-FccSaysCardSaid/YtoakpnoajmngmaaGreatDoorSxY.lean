import Derived.Test.YtoakpnoajmngmaaGreatDoorSxR
set_option linter.unusedVariables false
set_option linter.unusedSimpArgs false
namespace Go.Proofs.YtoakpnoajmngmaaGreatDoor.Sx
open Go.RowKit (Below)
structure GRel (ρ:Env) (b:Bd) (bs:Nat->Prop) (w0 w:World) (Tm:Nat->Option Ent) (Hp:Nat->Option HEnt) (N:Nat->Prop) (tm:Array Value) (nt:Nat):Prop where
 mem:∀n h,Hp n=some h->qq ρ h.g->N n/\h.blk.ok ρ b bs w n/\SV.okL ρ N h.blk.cells
 inj:∀n m h k,Hp n=some h->Hp m=some k->qq ρ h.g->qq ρ k.g->h.blk.own=true->k.blk.own=true->b.β n=b.β m->n=m
 tmps:∀i e,Tm i=some e->e.at ρ b N tm i
 below:Kept bs w0 w
 base:∀k,bs k->k<w.heap.size
 nt:tm.size=nt
 kept:Mem ρ bs w0
def Fr (ρ:Env) (b:Bd) (base:Nat->Prop) (w:World) (V:St):Nat->Prop:=fun k=>base k\/(k<w.heap.size/\∀n h,zB V.heap n=some h->qq ρ h.g->h.blk.own=true->b.β n≠k)
def vb (V:St):Bool:=
 V.heap.all (fun x=>decide (x.1<V.next)&&(SV.namesL x.2.blk.cells).all fun m=>decide (m<V.next))&&V.tmps.all (fun x=>x.2.sv.names.all fun m=>decide (m<V.next))
theorem GRel.view {ρ:Env} {b:Bd} {base:Nat->Prop} {w0 w:World} {Tm:Nat->Option Ent} {Hp:Nat->Option HEnt} {N:Nat->Prop} {tm:Array Value} {nt:Nat} (h:GRel ρ b base w0 w Tm Hp N tm nt) {V:St} (hT:∀t e,zB V.tmps t=some e->Tm t=some e) (hH:∀n e,zB V.heap n=some e->Hp n=some e) (hn:V.nt=nt) (hc:vb V=true):
  Rel ρ b (Fr ρ b base w V) w w V tm:=by
 unfold vb at hc
 simp only[Bool.and_eq_true,List.all_eq_true,decide_eq_true_eq]at hc
 obtain⟨c1,c2⟩:=hc
 refine⟨⟨fun n e hf hg=>?_,fun n m e k hf hk hg hgk ho hok heq=>h.inj n m e k (hH n e hf) (hH m k hk) hg hgk ho hok heq⟩,fun t e hf=>?_,Kept.refl _ _,fun k hk=>hk.elim (h.base k) (fun x=>x.1),h.nt.trans hn.symm,(h.kept.kept h.below).mono fun k hk=> .inl hk⟩
 ·obtain⟨m1,m2,m3⟩:=h.mem n e (hH n e hf) hg
  have hm:=c1 _ (zG hf)
  refine⟨hm.1,m2.turn (fun ho hF=>?_) (fun ho=> .inl (m2.farBase ho)),SV.okL_names _ m3 hm.2⟩
  rcases hF with hF|hF
  ·exact(m2.base ho).1 hF
  ·exact hF.2 n e hf hg ho rfl
 ·obtain⟨h1,h2⟩:=h.tmps t e (hT t e hf)
  refine⟨fun hg=>⟨(h1 hg).1,SV.ok_names _ (h1 hg).2 (fun m hm=>c2 _ (zG hf) m hm)⟩,h2⟩
def Bd.join (b b':Bd) (lo hi:Nat):Bd:=⟨fun n=>if lo<=n/\n<hi then b'.β n else b.β n,fun n=>if lo<=n/\n<hi then b'.o n else b.o n,fun n=>if lo<=n/\n<hi then b'.κ n else b.κ n⟩
theorem Bd.join_old {b b':Bd} {lo hi:Nat} {N:Nat->Prop} (h:∀n,N n->¬(lo<=n/\n<hi)):zM b (b.join b' lo hi) N:=by
 intro n hn
 simp[Bd.join,h n hn]
theorem Bd.join_new {b b':Bd} {lo hi:Nat} (h:zM b b' (· <lo)):zM b' (b.join b' lo hi) (· <hi):=by
 intro n hn
 unfold Bd.join
 by_cases hl:lo<=n
 ·have:lo<=n/\n<hi:=⟨hl,hn⟩
  simp[this]
 ·have:¬(lo<=n/\n<hi):=fun hc=>hl hc.1
  obtain⟨h1,h2,h3⟩:=h n (Nat.lt_of_not_le hl)
  simp[this,h1,h2,h3]
theorem GRel.step {ρ:Env} {b b':Bd} {base:Nat->Prop} {w0 w w':World} {Tm Tm':Nat->Option Ent} {Hp Hp':Nat->Option HEnt} {N N':Nat->Prop} {a:Act} {nt:Nat} (h:GRel ρ b base w0 w Tm Hp N a.tmps nt)
  {V U:St} (hV:∀n e,zB V.heap n=some e->Hp n=some e) {dst:Option Tmp} {val:Value} (hag:zM b b' (· <V.next)) (hr:Rel ρ b' (Fr ρ b base w V) w w' U (a.put dst val).tmps) (hle:V.next<=U.next) (hVn:∀n e,zB V.heap n=some e->n<V.next)
  (hT:∀t e,Tm' t=some e->(dst=some t/\zB U.tmps t=some e/\∀m∈e.sv.names,N' m)\/(dst≠some t/\Tm t=some e))
  (hH:∀n e,Hp' n=some e->qq ρ e.g->
   (V.next<=n/\zB U.heap n=some e/\e.blk.own=true/\∀m∈SV.namesL e.blk.cells,N' m)
   \/(∃e0 u,zB V.heap n=some e0/\qq ρ e0.g/\e0.blk.own=true/\zB U.heap n=some u/\qq ρ u.g/\u.blk.kind=e0.blk.kind/\u.blk.elem=e0.blk.elem/\e.blk=u.blk/\∀m∈SV.namesL e.blk.cells,N' m)
   \/(Hp n=some e/\∀e0,zB V.heap n=some e0->e0.blk.own=false))
  (hN1:∀n,N n->N' n) (hN2:∀n,V.next<=n->n<U.next->N' n) (hN3:∀n,N n->¬(V.next<=n/\n<U.next)) (hnt:(a.put dst val).tmps.size=a.tmps.size):
  GRel ρ (b.join b' V.next U.next) base w0 w' Tm' Hp' N' (a.put dst val).tmps nt:=by
 have ho:zM b (b.join b' V.next U.next) N:=Bd.join_old hN3
 have hn:=Bd.join_new (hi:=U.next) hag
 have hlt:∀n e,Hp n=some e->qq ρ e.g->b.β n<w.heap.size:=fun n e hf hg=>(h.mem n e hf hg).2.1.lt h.base
 have hkeep:∀n e,Hp n=some e->qq ρ e.g->(∀e0,zB V.heap n=some e0->e0.blk.own=false)->Fr ρ b base w V (b.β n):=by
  intro n e hf hg hs
  by_cases hown:e.blk.own=true
  ·refine .inr ⟨hlt n e hf hg,fun m k hk hgk hok heq=>?_⟩
   have:=h.inj m n k e (hV m k hk) hf hgk hg hok hown heq
   subst this
   rw[hs k hk]at hok
   cases hok
  ·exact .inl ((h.mem n e hf hg).2.1.farBase (by simpa using hown))
 have hcase:∀n e,Hp' n=some e->qq ρ e.g->N' n/\e.blk.ok ρ (b.join b' V.next U.next) base w' n/\SV.okL ρ N' e.blk.cells:=by
  intro n e hf hg
  rcases hH n e hf hg with⟨h1,h2,h3,h4⟩|⟨e0,u,h1,h2,h3,h4,h5,h6,h7,h8,h9⟩|⟨h1,h2⟩
  ·obtain⟨m1,m2,m3⟩:=hr.heap.mem n e h2 hg
   have hb:=m2.base h3
   refine⟨hN2 n h1 m1,?_,SV.okL_names _ m3 h4⟩
   have:=m2.keep m1 m3 hn rfl
   refine this.turn (fun _ hc=>?_) (fun hc=>by rw[h3]at hc;cases hc)
   rw[(hn n m1).1]at hc
   exact hb.1 (.inl hc)
  ·obtain⟨m1,m2,m3⟩:=hr.heap.mem n u h4 h5
   have huo:u.blk.own=true:=by simpa [Blk.own,h6]using h3
   have hb:=m2.base huo
   have hNn:N n:=(h.mem n e0 (hV n e0 h1) h2).1
   rw[h8]at h9 ⊢
   refine⟨hN1 n hNn,?_,SV.okL_names _ m3 h9⟩
   have:=m2.keep m1 m3 hn rfl
   refine this.turn (fun _ hc=>?_) (fun hc=>by rw[huo]at hc;cases hc)
   rw[(hn n m1).1]at hc
   exact hb.1 (.inl hc)
  ·obtain⟨m1,m2,m3⟩:=h.mem n e h1 hg
   exact⟨hN1 n m1,m2.keep m1 m3 ho (hr.below.block _ (hkeep n e h1 hg h2)),SV.okL_mono hN1 _ m3⟩
 refine⟨hcase,?_,?_,h.below.trans (hr.below.mono fun k hk=> .inl hk),fun k hk=>Nat.lt_of_lt_of_le (h.base k hk) hr.below.size,hnt.trans h.nt,h.kept⟩
 ·
  have hseen:∀n e,Hp' n=some e->qq ρ e.g->e.blk.own=true->(∃u,zB U.heap n=some u/\qq ρ u.g/\u.blk.own=true/\n<U.next)\/(Hp n=some e/\∀e0,zB V.heap n=some e0->e0.blk.own=false):=by
   intro n e hf hg hoe
   rcases hH n e hf hg with⟨h1,h2,h3,_⟩|⟨e0,u,h1,h2,h3,h4,h5,h6,h7,h8,_⟩|h1
   ·exact .inl ⟨e,h2,hg,h3,(hr.heap.mem n e h2 hg).1⟩
   ·exact .inl ⟨u,h4,h5,by simpa [Blk.own,h6]using h3,(hr.heap.mem n u h4 h5).1⟩
   ·exact .inr h1
  have hdiff:∀n u m e,zB U.heap n=some u->qq ρ u.g->u.blk.own=true->n<U.next->Hp m=some e->qq ρ e.g->(∀e0,zB V.heap m=some e0->e0.blk.own=false)->(b.join b' V.next U.next).β n≠(b.join b' V.next U.next).β m:=by
   intro n u m e hu hgu hou hnu hm hgm hs heq
   have hb:=(hr.heap.mem n u hu hgu).2.1.base hou
   rw[(hn n hnu).1,(ho m (h.mem m e hm hgm).1).1]at heq
   exact hb.1 (heq▸hkeep m e hm hgm hs)
  intro n m e k hf hk hg hgk hoe hok heq
  rcases hseen n e hf hg hoe with⟨u,u1,u2,u3,u4⟩|⟨p1,p2⟩
  ·rcases hseen m k hk hgk hok with⟨v,v1,v2,v3,v4⟩|⟨q1,q2⟩
   ·rw[(hn n u4).1,(hn m v4).1]at heq
    exact hr.heap.inj n m u v u1 v1 u2 v2 u3 v3 heq
   ·exact absurd heq (hdiff n u m k u1 u2 u3 u4 q1 hgk q2)
  ·rcases hseen m k hk hgk hok with⟨v,v1,v2,v3,v4⟩|⟨q1,q2⟩
   ·exact absurd heq.symm (hdiff m v n e v1 v2 v3 v4 p1 hg p2)
   ·rw[(ho n (h.mem n e p1 hg).1).1,(ho m (h.mem m k q1 hgk).1).1]at heq
    exact h.inj n m e k p1 q1 hg hgk hoe hok heq
 ·intro t e hf
  rcases hT t e hf with⟨h1,h2,h3⟩|⟨h1,h2⟩
  ·obtain⟨t1,t2⟩:=hr.tmps t e h2
   refine⟨fun hg=>?_,t2⟩
   obtain⟨t3,t4⟩:=t1 hg
   exact⟨by rw[SV.den_agree hn _ t4];exact t3,SV.ok_names _ t4 h3⟩
  ·have hsame:(a.put dst val).tmps[t]? =a.tmps[t]? :=by
    cases dst with
    |none=>rfl
    |some d=>
     simp only[Act.put]
     rw[Array.getElem?_setIfInBounds_ne (fun hc=>h1 (by rw[hc]))]
   obtain⟨t1,t2⟩:=h.tmps t e h2
   refine⟨fun hg=>?_,fun hg=>by rw[hsame];exact t2 hg⟩
   obtain⟨t3,t4⟩:=t1 hg
   exact⟨by rw[hsame,SV.den_agree ho _ t4];exact t3,SV.ok_mono hN1 _ t4⟩
end Go.Proofs.YtoakpnoajmngmaaGreatDoor.Sx
namespace Go.Proofs.YtoakpnoajmngmaaGreatDoor.Sx
open Go.RowKit (Below)
def L (N:Nat) (p:Nat->Bool):List Nat:=(List.range N).filter p
theorem jT {N:Nat} {p:Nat->Bool} {j:Nat}:j∈L N p↔j<N/\p j=true:=by simp[L]
theorem J9 (N:Nat) (p:Nat->Bool):L (N+1) p=L N p++if p N then[N]else[]:=by
 simp[L,List.range_succ,List.filter_append,List.filter_cons]
theorem mq (a c:List (Nat × List SV)) (n:Nat):ji (a++c) n=match ji c n with|some x=>some x|none=>ji a n:=by
 induction a with
 |nil=>simp only[List.nil_append,ji];cases ji c n<;>rfl
 |cons x a ih=>
  obtain⟨m,y⟩:=x
  simp only[List.cons_append,ji,ih]
  cases ji c n<;>rfl
theorem vc {l:List (Nat × List SV)} {n:Nat} (h:∀c,(n,c) ∉ l):ji l n=none:=by
 induction l with
 |nil=>rfl
 |cons x l ih=>
  obtain⟨m,y⟩:=x
  simp only[ji,ih (fun c hc=>h c (.tail _ hc))]
  split
  ·rename_i hm;subst hm;exact absurd (.head _) (h y)
  ·rfl
theorem VI {l:List (Nat × List SV)} {n:Nat} {c:List SV} (h:ji l n=some c):(n,c)∈l:=by
 induction l with
 |nil=>cases h
 |cons x l ih=>
  obtain⟨m,y⟩:=x
  simp only[ji]at h
  split at h
  ·rename_i d hd;cases h;exact .tail _ (ih hd)
  ·split at h
   ·rename_i hm;cases h;subst hm;exact .head _
   ·cases h
theorem Ka {l:List (Nat × List SV)} {n:Nat} {c:List SV} (h:(n,c)∈l):∃d,ji l n=some d:=by
 induction l with
 |nil=>cases h
 |cons x l ih=>
  obtain⟨m,y⟩:=x
  simp only[ji]
  cases h with
  |head=>cases ji l n<;>simp
  |tail _ h=>obtain⟨d,hd⟩:=ih h;exact⟨d,by rw[hd]⟩
theorem yW {r:RS} {j:Nat} {x:OR} (h:r j=some x):J8 r j=wrote x:=by unfold J8;rw[h]
theorem vd {r:RS} {j:Nat} (h:r j=none):J8 r j=[]:=by unfold J8;rw[h]
theorem zat {r:RS} {l:List Nat} {n:Nat} {c:List SV} (h:(n,c)∈xr r l):∃j∈l,∃x,r j=some x/\(n,c)∈wrote x:=by
 unfold xr at h
 rw[List.mem_flatMap]at h
 obtain⟨j,hj,hm⟩:=h
 cases hr:r j with
 |none=>rw[vd hr]at hm;cases hm
 |some x=>rw[yW hr]at hm;exact⟨j,hj,x,hr,hm⟩
theorem mr {x:OR} {n:Nat} {c:List SV} (h:(n,c)∈wrote x):∃e u,zB x.V.heap n=some e/\zB x.U.heap n=some u/\e.blk.own=true/\c=u.blk.cells:=by
 unfold wrote at h
 rw[List.mem_filterMap]at h
 obtain⟨y,_,hy⟩:=h
 split at hy
 ·rename_i e u h1 h2
  split at hy
  ·rename_i hc
   cases hy
   simp only[Bool.and_eq_true]at hc
   exact⟨e,u,h1,h2,hc.1,rfl⟩
  ·cases hy
 ·cases hy
theorem ZA {r:RS} {n:Nat} {p q:Nat->Bool}:∀N,(∀j,j<N->q j=true->p j=true)->(∀j,j<N->p j=true->q j=false->∀x,r j=some x->∀c,(n,c) ∉ wrote x)->ji (xr r (L N p)) n=ji (xr r (L N q)) n:=by
 intro N
 induction N with
 |zero=>intro _ _;rfl
 |succ N ih=>
  intro h1 h2
  have ih':=ih (fun j hj=>h1 j (by omega)) (fun j hj=>h2 j (by omega))
  rw[J9,J9]
  unfold xr at ih' ⊢
  rw[List.flatMap_append,List.flatMap_append,mq,mq,ih']
  cases hp:p N with
  |false=>
   cases hq:q N with
   |false=>rfl
   |true=>rw[h1 N (by omega) hq]at hp;cases hp
  |true=>
   cases hq:q N with
   |true=>rfl
   |false=>
    have:ji (List.flatMap (J8 r) (if true=true then[N]else[])) n=none:=by
     refine vc fun c hc=>?_
     simp only[if_true,List.flatMap_cons,List.flatMap_nil,List.append_nil]at hc
     cases hr:r N with
     |none=>rw[vd hr]at hc;cases hc
     |some x=>rw[yW hr]at hc;exact h2 N (by omega) hp hq x hr c hc
    rw[this]
    simp[ji]
theorem zdG {r:RS} {n i:Nat} {p:Nat->Bool} {x:OR} (hx:r i=some x):∀N,i<N->p i=true->(∀j,j<N->i<j->p j=true->∀y,r j=some y->∀c,(n,c) ∉ wrote y)->(∃c,(n,c)∈wrote x)->ji (xr r (L N p)) n=ji (wrote x) n:=by
 intro N
 induction N with
 |zero=>intro h;omega
 |succ N ih=>
  intro hi hp h2 hc
  rw[J9]
  unfold xr at ih ⊢
  rw[List.flatMap_append,mq]
  by_cases he:i=N
  ·subst he
   rw[hp]
   simp only[if_true,List.flatMap_cons,List.flatMap_nil,List.append_nil,yW hx]
   obtain⟨c,hc⟩:=hc
   obtain⟨d,hd⟩:=Ka hc
   rw[hd]
  ·have:ji (List.flatMap (J8 r) (if p N=true then[N]else[])) n=none:=by
    refine vc fun c hc=>?_
    split at hc
    ·rename_i hpN
     simp only[List.flatMap_cons,List.flatMap_nil,List.append_nil]at hc
     cases hr:r N with
     |none=>rw[vd hr]at hc;cases hc
     |some y=>rw[yW hr]at hc;exact h2 N (by omega) (by omega) hpN y hr c hc
    ·cases hc
   rw[this]
   exact ih (by omega) hp (fun j hj=>h2 j (by omega)) hc
theorem yA {r:RS} {l:List Nat} {n:Nat}:xG r l n=true↔∃j∈l,∃x,r j=some x/\n∈gone x:=by
 unfold xG
 rw[List.any_eq_true]
 refine⟨fun⟨j,hj,h⟩=>?_,fun⟨j,hj,x,hx,h⟩=>⟨j,hj,by rw[hx];simpa using h⟩⟩
 split at h
 ·rename_i x hx
  exact⟨j,hj,x,hx,by simpa using h⟩
 ·cases h
theorem gi {r:RS} {S:St} {l:List Nat} {n:Nat} {e:HEnt} (h:mj r S l n=some e):xG r l n=false/\(yy r S l n).map (yz r l n)=some e:=by
 unfold mj at h
 split at h
 ·cases h
 ·rename_i hg
  exact⟨by simpa using hg,h⟩
theorem zau {r:RS} {S:St} {l:List Nat} {n:Nat} {e:HEnt} (h:xG r l n=false) (h':(yy r S l n).map (yz r l n)=some e):mj r S l n=some e:=by
 unfold mj
 rw[h]
 exact h'
theorem kV {x:OR} {n:Nat} {e:HEnt} (h:zB (news x) n=some e):x.V.next<=n/\n<x.U.next/\e.blk.own=true/\zB x.U.heap n=some e:=by
 obtain⟨y,h1,h2⟩:=qP (zG h)
 split at h2
 ·rename_i hc
  cases h2
  simp only[Bool.and_eq_true,decide_eq_true_eq]at hc
  exact⟨hc.1.1,hc.1.2,hc.2,h1⟩
 ·cases h2
theorem xH {r:RS} {S:St} {n:Nat} {e:HEnt}:∀ {l:List Nat},yy r S l n=some e->(∃j∈l,∃x,r j=some x/\zB (news x) n=some e)\/zB S.heap n=some e:=by
 intro l
 induction l with
 |nil=>intro h;exact .inr h
 |cons j l ih=>
  intro h
  simp only[yy]at h
  split at h
  ·rename_i e' he
   cases h
   rw[Option.bind_eq_some_iff]at he
   obtain⟨x,hx,hf⟩:=he
   exact .inl ⟨j,.head _,x,hx,hf⟩
  ·rcases ih h with⟨k,hk,x,hx⟩|h
   ·exact .inl ⟨k,.tail _ hk,x,hx⟩
   ·exact .inr h
theorem zav {r:RS} {S:St} {n:Nat} {e:HEnt} {j:Nat} {x:OR} (hx:r j=some x) (hf:zB (news x) n=some e):∀ {l:List Nat},j∈l->(∀k∈l,k≠j->∀y,r k=some y->zB (news y) n=none)->yy r S l n=some e:=by
 intro l
 induction l with
 |nil=>intro h;cases h
 |cons k l ih=>
  intro hj hu
  simp only[yy]
  by_cases hk:k=j
  ·subst hk
   rw[hx]
   simp only[Option.bind_some,hf]
  ·have hn:((r k).bind fun x=>zB (news x) n)=none:=by
    cases hr:r k with
    |none=>rfl
    |some y=>simp only[Option.bind_some];exact hu k (.head _) hk y hr
   rw[hn]
   refine ih ?_ (fun m hm=>hu m (.tail _ hm))
   cases hj with
   |head=>exact absurd rfl hk
   |tail _ h=>exact h
theorem zaw {r:RS} {S:St} {n:Nat}:∀ {l:List Nat},(∀k∈l,∀y,r k=some y->zB (news y) n=none)->yy r S l n=zB S.heap n:=by
 intro l
 induction l with
 |nil=>intro _;rfl
 |cons k l ih=>
  intro hu
  simp only[yy]
  have hn:((r k).bind fun x=>zB (news x) n)=none:=by
   cases hr:r k with
   |none=>rfl
   |some y=>simp only[Option.bind_some];exact hu k (.head _) y hr
  rw[hn]
  exact ih (fun m hm=>hu m (.tail _ hm))
theorem Kb {α β:Type} {f g:α->List β}:∀ {l:List α},(∀j∈l,f j=g j)->l.flatMap f=l.flatMap g:=by
 intro l
 induction l with
 |nil=>intro _;rfl
 |cons a l ih=>
  intro h
  rw[List.flatMap_cons,List.flatMap_cons,h a (.head _),ih (fun j hj=>h j (.tail _ hj))]
theorem Kc {r r':RS} {ops:List Oper} {S:St} {l:List Nat} (h:∀j∈l,r j=r' j) (hide hideT:Nat->Bool) (kt kh:List Nat) (G:List E) (lo:Nat):ku r ops S l hide hideT kt kh G lo=ku r' ops S l hide hideT kt kh G lo:=by
 have hw:xr r l=xr r' l:=by
  unfold xr
  exact Kb fun j hj=>by unfold J8;rw[h j hj]
 have hb:∀n,yy r S l n=yy r' S l n:=by
  intro n
  clear hw
  induction l with
  |nil=>rfl
  |cons k l ih=>
   simp only[yy]
   rw[h k (.head _),ih (fun j hj=>h j (.tail _ hj))]
 have hgo:∀n,xG r l n=xG r' l n:=by
  intro n
  clear hw hb
  unfold xG
  induction l with
  |nil=>rfl
  |cons k l ih=>rw[List.any_cons,List.any_cons,h k (.head _),ih (fun j hj=>h j (.tail _ hj))]
 have he:∀n,mj r S l n=mj r' S l n:=by
  intro n
  unfold mj yz
  rw[hb,hw,hgo]
 have ht:∀t,Zz r ops S l t=Zz r' ops S l t:=by
  intro t
  unfold Zz
  split
  ·split
   ·rename_i j _ hc
    rw[h j (by simpa using hc)]
   ·rfl
  ·rfl
 unfold ku
 congr 1
 ·congr 1;funext t;rw[ht]
 ·congr 1;funext n;rw[he]
end Go.Proofs.YtoakpnoajmngmaaGreatDoor.Sx
namespace Go.Proofs.YtoakpnoajmngmaaGreatDoor.Sx
open Go.RowKit (Below)
def zJ (bl:List Nat) (i j:Nat):Bool:=Nat.testBit (bl[i]?.getD 0) j
def vE (bl:List Nat) (tg:List (List Nat)) (N i n:Nat):Bool:=(List.range N).any fun j=> !(j==i)&&(tg[j]?.getD []).contains n&& !(zJ bl i j)&& !(zJ bl j i)
def QN (ops:List Oper) (bl:List Nat) (i t:Nat):Bool:=match zfo ops t with
 |some j=> !(j==i)&& !(zJ bl i j)&& !(zJ bl j i)
 |none=>false
def jB (r:RS) (S:St) (l:List Nat) (n:Nat):Bool:=decide (n<S.next)||l.any fun j=>match r j with
 |some x=>decide (x.V.next<=n)&&decide (n<x.U.next)
 |none=>false
def ms:List E->List E->Bool
 |[],[]=>true
 |a::l,c::m=>a.same c&&ms l m
 |_,_=>false
theorem mt:∀ {l m:List E},ms l m=true->l=m:=by
 intro l
 induction l with
 |nil=>intro m h;cases m<;>simp[ms]at h;rfl
 |cons a l ih=>intro m h;cases m<;>simp[ms]at h;rw[E.same_eq h.1,ih h.2]
def vF (r:RS) (S:St) (l:List Nat) (tgi:List Nat) (strict:Bool) (x:OR) (dst:Option Tmp):Bool:=
 let al:=fun n=>jB r S l n||(decide (x.V.next<=n)&&decide (n<x.U.next))
 decide (x.V.next<=x.U.next)&&
 x.V.heap.all (fun y=>match zB x.V.heap y.1 with
  |some e=> !e.blk.own||(match zB x.U.heap y.1 with
   |some u=>ms u.g e.g&&decide (u.blk.kind=e.blk.kind)&&decide (u.blk.elem=e.blk.elem)&&(SV.namesL u.blk.cells).all al
   |none=>true)
  |none=>true)&&
 (match dst with
  |some d=>match zB x.U.tmps d with
   |some e=>e.sv.names.all al
   |none=>true
  |none=>true)&&
 (news x).all (fun y=>(SV.namesL y.2.blk.cells).all al)&&
 (!strict||(wrote x).all (fun y=>tgi.contains y.1)&&(gone x).all tgi.contains)
def jk (S:St) (acc:List OR):Nat:=match acc.getLast? with
 |some x=>x.U.next
 |none=>S.next
def zdH (ops:Array Oper) (V:St) (o:Oper):List E:=match QL ops V o with
 |some (some G)=>G
 |_=>[]
def zfp (ops:Array Oper) (o:Oper):List Nat:=
 (match o.guard with
  |some (j,_)=>((ops[j]?).bind (·.dst)).toList
  |none=>[])++o.op.operands.toList.filterMap fun
   | .tmp t=>some t
   |_=>none
def zmB:List Nat->List Nat->List Nat
 |[],acc=>acc
 |n::l,acc=>zmB l (if acc.any (Nat.beq n)then acc else n::acc)
def zmC (o:Oper):Bool:=match o.op with
 | .call c=>(match c.callee with
   | .builtin _=>false
   |_=>true)
 |_=>false
def zh3 (r:RS) (S:St) (l:List Nat) (o:Oper) (nms:List Nat):List Nat:=
 if zmC o then Yw ((zh2 r S l).filterMap fun n=>(mj r S l n).map fun e=>(n,e)) 1000 nms []else zmB nms []
def zmD (r:RS) (ops:Array Oper) (S:St) (l:List Nat) (hide hideT:Nat->Bool) (lo:Nat) (o:Oper):St:=
 let V0:=ku r ops.toList S l hide hideT (zfp ops o) [] [] lo
 ku r ops.toList S l hide hideT (zfp ops o) (zh3 r S l o (V0.tmps.flatMap fun x=>x.2.sv.names)) (zdH ops V0 o) lo
def Yz (P:Program) (et:TypeId) (h:zl) (pc:List E) (ops:Array Oper) (S:St) (bl:List Nat) (tg:List (List Nat)) (N:Nat) (strict:Bool) (acc:List OR) (o:Oper):Option (OR × List VC):=
 let V:=zmD (fun j=>acc[j]?) ops S (L N (zJ bl acc.length)) (vE bl tg N acc.length) (QN ops.toList bl acc.length) (jk S acc) o
 if vb V then
  match Zx P et h pc ops V o with
  |some (.leaf U,vs)=>if vF (fun j=>acc[j]?) S (L N (zJ bl acc.length)) (tg[acc.length]?.getD []) strict ⟨V,U⟩ o.dst then some (⟨V,U⟩,vs)else none
  |_=>none
 else none
def Kd (P:Program) (et:TypeId) (h:zl) (pc:List E) (ops:Array Oper) (S:St) (bl:List Nat) (tg:List (List Nat)) (N:Nat) (strict:Bool):List Oper->List OR->Option (List OR × List VC)
 |[],acc=>some (acc,[])
 |o::rest,acc=>
  match Yz P et h pc ops S bl tg N strict acc o with
  |some (x,vs)=>match Kd P et h pc ops S bl tg N strict rest (acc++[x])with
   |some (rs,vs')=>some (rs,vs++vs')
   |none=>none
  |none=>none
structure Fact (P:Program) (et:TypeId) (h:zl) (pc:List E) (ops:Array Oper) (S:St) (bl:List Nat) (tg:List (List Nat)) (N:Nat) (pre:List OR) (o:Oper) (x:OR) (vs:List VC):Prop where
 view:∃kt kh G,x.V=ku (fun j=>pre[j]?) ops.toList S (L N (zJ bl pre.length)) (vE bl tg N pre.length) (QN ops.toList bl pre.length) kt kh G (jk S pre)
 chk:vb x.V=true
 step:Zx P et h pc ops x.V o=some (.leaf x.U,vs)
 ok:vF (fun j=>pre[j]?) S (L N (zJ bl pre.length)) (tg[pre.length]?.getD []) true x o.dst=true
theorem Ke {P:Program} {et:TypeId} {h:zl} {pc:List E} {ops:Array Oper} {S:St} {bl:List Nat} {tg:List (List Nat)} {N:Nat} {pre:List OR} {o:Oper} {x:OR} {vs:List VC} (hd:Yz P et h pc ops S bl tg N true pre o=some (x,vs)):Fact P et h pc ops S bl tg N pre o x vs:=by
 unfold Yz at hd
 dsimp only at hd
 split at hd
 ·rename_i hchk
  split at hd
  ·rename_i U vs1 hstep
   split at hd
   ·rename_i hok
    cases hd
    exact⟨⟨_,_,_,rfl⟩,hchk,hstep,hok⟩
   ·cases hd
  ·cases hd
 ·cases hd
theorem YA {P:Program} {et:TypeId} {h:zl} {pc:List E} {ops:Array Oper} {S:St} {bl:List Nat} {tg:List (List Nat)} {N:Nat}:∀ {rest:List Oper} {acc rs:List OR} {vs:List VC},Kd P et h pc ops S bl tg N true rest acc=some (rs,vs)->
  rs.length=acc.length+rest.length/\rs.take acc.length=acc/\∀k o,rest[k]? =some o->∃x vs',rs[acc.length+k]? =some x/\Fact P et h pc ops S bl tg N (rs.take (acc.length+k)) o x vs'/\∀v∈vs',v∈vs:=by
 intro rest
 induction rest with
 |nil=>intro acc rs vs hs;cases hs;exact⟨rfl,by simp,fun k o h=>by simp at h⟩
 |cons o rest ih=>
  intro acc rs vs hs
  simp only[Kd]at hs
  split at hs
  ·rename_i x1 vs1 hone
   split at hs
   ·rename_i rs' vs2 hd
    cases hs
    obtain⟨h1,h2,h3⟩:=ih hd
    simp only[List.length_append,List.length_cons,List.length_nil,Nat.zero_add]at h1 h2 h3
    have hpre:rs.take acc.length=acc:=by
     have:=congrArg (List.take acc.length) h2
     rw[List.take_take]at this
     simpa using this
    refine⟨by simp only[List.length_cons];omega,hpre,fun k o' hk=>?_⟩
    cases k with
    |zero=>
     simp only[List.getElem?_cons_zero,Option.some.injEq]at hk
     subst hk
     refine⟨x1,vs1,?_,by rw[Nat.add_zero,hpre];exact Ke hone,fun v hv=>List.mem_append.2 (.inl hv)⟩
     have:=congrArg (fun l=>l[acc.length]?) h2
     simp only[List.getElem?_take]at this
     rw[if_pos (by omega)]at this
     rw[Nat.add_zero,this]
     simp
    |succ k=>
     obtain⟨x,vs',a1,a2,a3⟩:=h3 k o' (by simpa using hk)
     refine⟨x,vs',by rw[<-a1];congr 1;omega,?_,fun v hv=>List.mem_append.2 (.inr (a3 v hv))⟩
     have e:acc.length+(k+1)=acc.length+1+k:=by omega
     rw[e];exact a2
   ·cases hs
  ·cases hs
def QO (P:Program) (ops:Array Oper) (S:St) (bl:List Nat):Bool:=
 P.follows .mixedOrders&&
 (List.range ops.size).all (fun i=>match ops[i]? with
  |some o=>(jA o).all (fun j=>decide (j<i))&&decide ((bl[i]?.getD 0)<2^i)&&(List.range i).all (fun j=> !zJ bl i j||(jA o).any fun e=>Nat.beq e j||zJ bl e j)&&(match o.dst with
   |some t=>decide (zfo ops.toList t=some i)
   |none=>true)
  |none=>false)&&
 S.heap.all (fun x=>decide (x.1<S.next))
def isW (o:Oper):Bool:=match o.op with
 | .call c=>(match c.callee with
   | .builtin .append=>true
   | .builtin .copy=>true
   | .builtin _=>false
   |_=>true)
 | .store .. =>true
 |_=>false
def zi (P:Program) (et:TypeId) (h:zl) (ops:Array Oper) (pc:List E) (S:St):Option (T St × List VC):=
 let bl:=zo3 ops.toList []
 let N:=ops.size
 if QO P ops S bl then
  let r:=if ops.toList.any (fun o=>isW o)then
      match Kd P et h pc ops S bl [] N false ops.toList []with
      |some (rs,_)=>let tg:List (List Nat):=List.map (fun(x:OR)=>(wrote x).map Prod.fst++gone x) rs
       (Kd P et h pc ops S bl tg N true ops.toList []).map fun x=>(tg,x)
      |none=>none
   else(Kd P et h pc ops S bl [] N true ops.toList []).map fun x=>([],x)
  match r with
  |some (_,rs,vs)=>some (.leaf (ku (fun j=>rs[j]?) ops.toList S (L N fun _=>true) (fun _=>false) (fun _=>false) (zmA ops.toList S) (zh2 (fun j=>rs[j]?) S (L N fun _=>true)) [] (jk S rs)),vs)
  |none=>none
 else none
end Go.Proofs.YtoakpnoajmngmaaGreatDoor.Sx
namespace Go.Proofs.YtoakpnoajmngmaaGreatDoor.Sx
open Go.RowKit (Below)
structure Ctx (P:Program) (et:TypeId) (h:zl) (pc:List E) (ops:Array Oper) (S:St) (bl:List Nat) (tg:List (List Nat)) (r:RS) (vs:List VC):Prop where
 all:∀i,i<ops.size->∃o x vi,ops[i]? =some o/\r i=some x/\(∃kt kh G,x.V=ku r ops.toList S (L ops.size (zJ bl i)) (vE bl tg ops.size i) (QN ops.toList bl i) kt kh G x.V.next)/\vb x.V=true/\Zx P et h pc ops x.V o=some (.leaf x.U,vi)/\vF r S (L ops.size (zJ bl i)) (tg[i]?.getD []) true x o.dst=true/\∀v∈vi,v∈vs
 mono:∀j i x y,j<i->r j=some x->r i=some y->x.U.next<=y.V.next
 low:∀i x,r i=some x->S.next<=x.V.next/\x.V.next<=x.U.next
 edge:∀i o,ops[i]? =some o->(∀j∈jA o,j<i)/\(∀j,zJ bl i j=true->j<i/\∃e∈jA o,e=j\/zJ bl e j=true)/\(∀t,o.dst=some t->zfo ops.toList t=some i)
 heap:∀n e,zB S.heap n=some e->n<S.next
section
variable {P:Program} {et:TypeId} {h:zl} {pc:List E} {ops:Array Oper} {S:St} {bl:List Nat} {tg:List (List Nat)} {r:RS} {vs:List VC}
theorem Ctx.range (c:Ctx P et h pc ops S bl tg r vs) {i:Nat} {x:OR} (hi:i<ops.size) (hx:r i=some x) {ρ:Env} {n:Nat} {e:HEnt} (hf:zB (news x) n=some e):x.V.next<=n:=(kV hf).1
def NS (S:St) (r:RS) (D:Nat->Bool) (N:Nat) (n:Nat):Prop:=n<S.next\/∃j,j<N/\D j=true/\∃x,r j=some x/\x.V.next<=n/\n<x.U.next
def ZB (bl:List Nat) (N:Nat) (D:Nat->Bool):Prop:=∀i,i<N->D i=true->∀j,zJ bl i j=true->D j=true
theorem VJ {l:List Nat} {n:Nat} (hn:jB r S l n=true):n<S.next\/∃j∈l,∃x,r j=some x/\x.V.next<=n/\n<x.U.next:=by
 unfold jB at hn
 simp only[Bool.or_eq_true,decide_eq_true_eq,List.any_eq_true]at hn
 rcases hn with hn|⟨j,hj,hn⟩
 ·exact .inl hn
 ·split at hn
  ·rename_i x hx
   simp only[Bool.and_eq_true,decide_eq_true_eq]at hn
   exact .inr ⟨j,hj,x,hx,hn⟩
  ·cases hn
structure StepOk (r:RS) (S:St) (l:List Nat) (tgi:List Nat) (x:OR) (dst:Option Tmp):Prop where
 le:x.V.next<=x.U.next
 seen:∀n e,zB x.V.heap n=some e->e.blk.own=true->n ∉ gone x->∃u,zB x.U.heap n=some u/\u.g=e.g/\u.blk.kind=e.blk.kind/\u.blk.elem=e.blk.elem/\∀m∈SV.namesL u.blk.cells,jB r S l m=true\/(x.V.next<=m/\m<x.U.next)
 dst:∀d e,dst=some d->zB x.U.tmps d=some e->∀m∈e.sv.names,jB r S l m=true\/(x.V.next<=m/\m<x.U.next)
 news:∀n e,zB (news x) n=some e->∀m∈SV.namesL e.blk.cells,jB r S l m=true\/(x.V.next<=m/\m<x.U.next)
 wrote:∀n cs,(n,cs)∈wrote x->n∈tgi
 gone:∀n,n∈gone x->n∈tgi
theorem gj {l:List Nat} {tgi:List Nat} {x:OR} {dst:Option Tmp} (hk:vF r S l tgi true x dst=true):StepOk r S l tgi x dst:=by
 unfold vF at hk
 simp only[Bool.and_eq_true,decide_eq_true_eq,List.all_eq_true,Bool.not_true,Bool.false_or,Bool.or_eq_true]at hk
 obtain⟨⟨⟨⟨k1,k2⟩,k3⟩,k4⟩,k5,k6⟩:=hk
 refine⟨k1,fun n e hf ho hng=>?_,fun d e hd hf m hm=>?_,fun n e hf m hm=>k4 _ (zG hf) m hm,fun n cs hm=>by simpa using k5 _ hm,fun n hm=>by simpa using k6 _ hm⟩
 ·have:=k2 _ (zG hf)
  rw[hf]at this
  dsimp only at this
  rw[Bool.or_eq_true]at this
  rcases this with h1|h1
  ·rw[ho]at h1;simp at h1
  ·split at h1
   ·rename_i u hu
    simp only[Bool.and_eq_true,decide_eq_true_eq,List.all_eq_true,Bool.or_eq_true]at h1
    exact⟨u,hu,mt h1.1.1.1,h1.1.1.2,h1.1.2,h1.2⟩
   ·rename_i hu
    refine absurd ?_ hng
    unfold Sx.gone
    rw[List.mem_filterMap]
    exact⟨(n,e),zG hf,by simp only[hf,hu,ho];rfl⟩
 ·subst hd
  simp only[hf,List.all_eq_true,Bool.or_eq_true,Bool.and_eq_true,decide_eq_true_eq]at k3
  exact k3 m hm
theorem ZC {N i n j:Nat} (hh:vE bl tg N i n=false) (hj:j<N) (hne:j≠i) (ht:n∈tg[j]?.getD []):zJ bl i j=true\/zJ bl j i=true:=by
 unfold vE at hh
 rw[List.any_eq_false]at hh
 have:=hh j (by simpa using hj)
 simp only[Bool.and_eq_true,Bool.not_eq_true',beq_eq_false_iff_ne,not_and,Bool.not_eq_true,Bool.not_eq_false]at this
 by_cases hb:zJ bl i j=true
 ·exact .inl hb
 ·exact .inr (this ⟨⟨hne,by simpa using ht⟩,by simpa using hb⟩)
theorem Ctx.seen (c:Ctx P et h pc ops S bl tg r vs) {j:Nat} (hj:j<ops.size) {x:OR} (hx:r j=some x) {n:Nat} {e:HEnt} (hf:zB x.V.heap n=some e):
  mj r S (L ops.size (zJ bl j)) n=some e/\vE bl tg ops.size j n=false/\n<x.V.next/\(n<S.next\/∃k,k<ops.size/\zJ bl j k=true/\∃y,r k=some y/\y.V.next<=n/\n<y.U.next):=by
 obtain⟨o,x',vi,ho,hx',⟨kt,kh,G,hV⟩,hchk,hst,hok,hvs⟩:=c.all j hj
 rw[hx]at hx'
 cases hx'
 have hchk':=hchk
 unfold vb at hchk'
 simp only[Bool.and_eq_true,List.all_eq_true,decide_eq_true_eq]at hchk'
 have hn:=(hchk'.1 _ (zG hf)).1
 have hf2:=hf
 rw[hV]at hf2
 obtain⟨h1,h2,h3⟩:=kU hf2
 refine⟨h1,h2,hn,?_⟩
 replace h1:=(gi h1).2
 rw[Option.map_eq_some_iff]at h1
 obtain⟨e0,he0,_⟩:=h1
 rcases xH he0 with⟨k,hk,y,hy,hfy⟩|hs
 ·rw[jT]at hk
  have hbl:=((c.edge j o ho).2.1 k hk.2).1
  have h4:=(kV hfy).1
  have this:=(kV hfy).2.1
  exact .inr ⟨k,hk.1,hk.2,y,hy,h4,this⟩
 ·exact .inl (c.heap n e0 hs)
theorem Ctx.uniq (c:Ctx P et h pc ops S bl tg r vs) {j k:Nat} {x y:OR} {n:Nat} (hx:r j=some x) (hy:r k=some y) (h1:x.V.next<=n) (h2:n<x.U.next) (h3:y.V.next<=n) (h4:n<y.U.next):j=k:=by
 rcases Nat.lt_trichotomy j k with hl|he|hl
 ·have:=c.mono j k x y hl hx hy;omega
 ·exact he
 ·have:=c.mono k j y x hl hy hx;omega
theorem Ctx.base_new (c:Ctx P et h pc ops S bl tg r vs) {l:List Nat} {j:Nat} {x:OR} {n:Nat} {e:HEnt} (hj:j∈l) (hx:r j=some x) (hf:zB (news x) n=some e):yy r S l n=some e:=
 zav hx hf hj fun k _ hk y hy=>by
  cases hq:zB (news y) n with
  |none=>rfl
  |some e'=>
   have a:=kV hf
   have b:=kV hq
   exact absurd (c.uniq hy hx b.1 b.2.1 a.1 a.2.1) hk
theorem Ctx.base_old (c:Ctx P et h pc ops S bl tg r vs) {l:List Nat} {n:Nat} (hn:n<S.next):yy r S l n=zB S.heap n:=
 zaw fun k _ y hy=>by
  cases hq:zB (news y) n with
  |none=>rfl
  |some e'=>have:=(kV hq).1;have:=(c.low k y hy).1;omega
theorem Ctx.wroteTg (c:Ctx P et h pc ops S bl tg r vs) {j:Nat} (hj:j<ops.size) {x:OR} (hx:r j=some x) {n:Nat} {cs:List SV} (hw:(n,cs)∈wrote x):n∈tg[j]?.getD []:=by
 obtain⟨o,x',vi,ho,hx',_,_,_,hok,_⟩:=c.all j hj
 rw[hx]at hx'
 cases hx'
 exact(gj hok).wrote n cs hw
theorem Ctx.goneTg (c:Ctx P et h pc ops S bl tg r vs) {j:Nat} (hj:j<ops.size) {x:OR} (hx:r j=some x) {n:Nat} (hw:n∈gone x):n∈tg[j]?.getD []:=by
 obtain⟨o,x',vi,ho,hx',_,_,_,hok,_⟩:=c.all j hj
 rw[hx]at hx'
 cases hx'
 exact(gj hok).gone n hw
theorem Kf {l m:List Nat} {n:Nat} (hl:ji (xr r l) n=ji (xr r m) n) (e:HEnt):yz r l n e=yz r m n e:=by unfold yz;rw[hl]
theorem Ctx.writers (c:Ctx P et h pc ops S bl tg r vs) {D:Nat->Bool} (hcl:ZB bl ops.size D) {i:Nat} (hi:i<ops.size) (hD:D i=false) {n:Nat} (hh:vE bl tg ops.size i n=false) {j:Nat} (hj:j<ops.size) (hDj:D j=true) {x:OR} (hx:r j=some x) {cs:List SV} (hw:(n,cs)∈wrote x):zJ bl i j=true:=by
 rcases ZC hh hj (fun e=>by subst e;rw[hD]at hDj;cases hDj) (c.wroteTg hj hx hw)with hb|hb
 ·exact hb
 ·have:=hcl j hj hDj i hb
  rw[hD]at this;cases this
theorem Ctx.goners (c:Ctx P et h pc ops S bl tg r vs) {D:Nat->Bool} (hcl:ZB bl ops.size D) {i:Nat} (hi:i<ops.size) (hD:D i=false) {n:Nat} (hh:vE bl tg ops.size i n=false) {j:Nat} (hj:j<ops.size) (hDj:D j=true) {x:OR} (hx:r j=some x) (hw:n∈gone x):zJ bl i j=true:=by
 rcases ZC hh hj (fun e=>by subst e;rw[hD]at hDj;cases hDj) (c.goneTg hj hx hw)with hb|hb
 ·exact hb
 ·have:=hcl j hj hDj i hb
  rw[hD]at this;cases this
theorem Ctx.view_heap (c:Ctx P et h pc ops S bl tg r vs) {D:Nat->Bool} (hcl:ZB bl ops.size D) {i:Nat} (hi:i<ops.size) (hD:D i=false) (hb:∀j,zJ bl i j=true->D j=true) {x:OR} (hx:r i=some x) {n:Nat} {e:HEnt} (hf:zB x.V.heap n=some e):mj r S (L ops.size D) n=some e:=by
 obtain⟨h1,h2,h3,h4⟩:=c.seen hi hx hf
 obtain⟨hng,h1⟩:=gi h1
 refine zau ?_ ?_
 ·rcases hq:xG r (L ops.size D) n with _|_
  ·rfl
  ·exfalso
   obtain⟨j,hj,y,hy,hgy⟩:=yA.1 hq
   rw[jT]at hj
   have hbj:=c.goners hcl hi hD h2 hj.1 hj.2 hy hgy
   have:xG r (L ops.size (zJ bl i)) n=true:=yA.2 ⟨j,jT.2 ⟨hj.1,hbj⟩,y,hy,hgy⟩
   rw[hng]at this
   cases this
 rw[Option.map_eq_some_iff]at h1 ⊢
 obtain⟨e0,he0,hae⟩:=h1
 refine⟨e0,?_,?_⟩
 ·rcases xH he0 with⟨k,hk,y,hy,hfy⟩|hs
  ·rw[jT]at hk
   exact c.base_new (jT.2 ⟨hk.1,hb k hk.2⟩) hy hfy
  ·rw[c.base_old (c.heap n e0 hs)];exact hs
 ·rw[<-hae]
  refine Kf (ZA _ (fun j hj hq=>hb j hq) (fun j hj hDj hq y hy cs hw=>?_)) e0
  rw[c.writers hcl hi hD h2 hj hDj hy hw]at hq
  cases hq
theorem Ctx.view_tmps (c:Ctx P et h pc ops S bl tg r vs) {D:Nat->Bool} (hcl:ZB bl ops.size D) {i:Nat} (hi:i<ops.size) (hD:D i=false) (hb:∀j,zJ bl i j=true->D j=true) {x:OR} (hx:r i=some x) {t:Nat} {e:Ent} (hf:zB x.V.tmps t=some e):Zz r ops.toList S (L ops.size D) t=some e:=by
 obtain⟨o,x',vi,ho,hx',⟨kt,kh,G,hV⟩,_,_,_,_⟩:=c.all i hi
 rw[hx]at hx'
 cases hx'
 rw[hV]at hf
 obtain⟨this,hhid⟩:=ml hf
 unfold Zz at this ⊢
 split at this
 ·rename_i j hj
  unfold QN at hhid
  rw[hj]at hhid
  have hjn:j<ops.size:=by
   unfold zfo at hj
   rw[List.findIdx?_eq_some_iff_getElem]at hj
   obtain⟨hl,_⟩:=hj
   simpa using hl
  split at this
  ·rename_i hc
   have hm:j∈L ops.size (zJ bl i):=by simpa using hc
   rw[jT]at hm
   rw[if_pos (by simpa using jT.2 ⟨hm.1,hb j hm.2⟩)]
   exact this
  ·rename_i hc
   have hnb:zJ bl i j=false:=by
    rcases hq:zJ bl i j with _|_
    ·rfl
    ·exact absurd (by simpa using jT.2 ⟨hjn,hq⟩) hc
   have hDj:D j=false:=by
    by_cases hji:j=i
    ·rw[hji];exact hD
    ·have hbj:zJ bl j i=true:=by simpa [hji,hnb]using hhid
     rcases hq:D j with _|_
     ·rfl
     ·have:=hcl j hjn hq i hbj
      rw[hD]at this;cases this
   rw[if_neg (by
    intro hcc
    have:j∈L ops.size D:=by simpa using hcc
    rw[jT,hDj]at this
    cases this.2)]
   exact this
 ·exact this
def kg (D:Nat->Bool) (i:Nat):Nat->Bool:=fun j=>D j||decide (j=i)
theorem Ctx.one (c:Ctx P et h pc ops S bl tg r vs) {ρ:Env} (he:ρ.et=et) (hh:HOK P ρ h) (hpc:qq ρ pc) (hv:jx ρ vs) {D:Nat->Bool} (hcl:ZB bl ops.size D) {i:Nat} (hi:i<ops.size) (hD:D i=false) (hb:∀j,zJ bl i j=true->D j=true)
  {b:Bd} {base:Nat->Prop} {w0 w:World} {a:Act} (hg:GRel ρ b base w0 w (Zz r ops.toList S (L ops.size D)) (mj r S (L ops.size D)) (NS S r D ops.size) a.tmps S.nt) {Q:Exit->Act->World->Prop} {K:Act->World->Prop}
  (hk:∀b' w' a',a'.defers=a.defers->zM b b' (· <S.next)->GRel ρ b' base w0 w' (Zz r ops.toList S (L ops.size (kg D i))) (mj r S (L ops.size (kg D i))) (NS S r (kg D i) ops.size) a'.tmps S.nt->K a' w'):wpOp P ops Q i K a w:=by
 obtain⟨o,x,vi,ho,hx,⟨kt,kh,G,hV⟩,hchk,hst,hok,hvi⟩:=c.all i hi
 have hs:=gj hok
 have hnt:x.V.nt=S.nt:=by rw[hV];rfl
 have hVT:∀t e,zB x.V.tmps t=some e->Zz r ops.toList S (L ops.size D) t=some e:=fun t e hf=>c.view_tmps hcl hi hD hb hx hf
 have hVH:∀n e,zB x.V.heap n=some e->mj r S (L ops.size D) n=some e:=fun n e hf=>c.view_heap hcl hi hD hb hx hf
 have hrel:=hg.view hVT hVH hnt hchk
 refine J7 he hh hst hpc (fun v hvv=>hv v (hvi v hvv)) hrel ho (fun b' w' val d1 d2 d3=>?_)
 simp only[T.at]at d2 d3
 have hlow:=c.low i x hx
 have hal:∀m,(jB r S (L ops.size (zJ bl i)) m=true\/(x.V.next<=m/\m<x.U.next))->NS S r (kg D i) ops.size m:=by
  intro m hm
  rcases hm with hm|hm
  ·rcases VJ hm with h1|⟨j,hj,y,hy,h1⟩
   ·exact .inl h1
   ·rw[jT]at hj
    exact .inr ⟨j,hj.1,by simp[kg,hb j hj.2],y,hy,h1⟩
  ·exact .inr ⟨i,hi,by simp[kg],x,hx,hm⟩
 have hst:=hg.step (V:=x.V) (U:=x.U) (b':=b') (w':=w') (Tm':=Zz r ops.toList S (L ops.size (kg D i))) (Hp':=mj r S (L ops.size (kg D i))) (N':=NS S r (kg D i) ops.size) hVH d1 d2 d3 (fun n e hf=>(c.seen hi hx hf).2.2.1) ?hT ?hH ?hN1 ?hN2 ?hN3 (by cases o.dst<;>simp[Act.put])
 ·refine hk _ _ _ (by cases o.dst<;>rfl) ?_ hst
  exact Bd.join_old (N:=(· <S.next)) (fun n hn=>by omega)
 case hT=>
  intro t e hf
  unfold Zz at hf
  split at hf
  ·rename_i j hj
   split at hf
   ·rename_i hc
    have hm:j∈L ops.size (kg D i):=by simpa using hc
    rw[jT]at hm
    by_cases hji:j=i
    ·subst hji
     have hdst:o.dst=some t:=by
      unfold zfo at hj
      rw[List.findIdx?_eq_some_iff_getElem]at hj
      obtain⟨hl,h1,_⟩:=hj
      have h2:ops.toList[j]=o:=by
       have:=(Array.getElem?_eq_some_iff.1 ho).2
       simpa using this
      rw[h2]at h1
      simpa using h1
     rw[hx]at hf
     simp only[Option.bind_some]at hf
     exact .inl ⟨hdst,hf,fun m hm=>hal m (hs.dst t e hdst hf m hm)⟩
    ·refine .inr ⟨fun hdst=>hji ?_,?_⟩
     ·have:=(c.edge i o ho).2.2 t hdst
      rw[hj]at this
      exact Option.some.inj this
     ·have hDj:D j=true:=by simpa [kg,hji]using hm.2
      unfold Zz
      rw[hj]
      dsimp only
      rw[if_pos (by simpa using jT.2 ⟨hm.1,hDj⟩)]
      exact hf
   ·rename_i hc
    have hjn:j<ops.size:=by
     unfold zfo at hj
     rw[List.findIdx?_eq_some_iff_getElem]at hj
     obtain⟨hl,_⟩:=hj
     simpa using hl
    have hpj:kg D i j=false:=by
     rcases hq:kg D i j with _|_
     ·rfl
     ·exact absurd (by simpa using jT.2 ⟨hjn,hq⟩) hc
    have hji:¬j=i:=fun e=>by simp[kg,e]at hpj
    have hDj:D j=false:=by simpa [kg,hji]using hpj
    refine .inr ⟨fun hdst=>hji ?_,?_⟩
    ·have:=(c.edge i o ho).2.2 t hdst
     rw[hj]at this
     exact Option.some.inj this
    ·unfold Zz
     rw[hj]
     dsimp only
     rw[if_neg (by
      intro hcc
      have:j∈L ops.size D:=by simpa using hcc
      rw[jT,hDj]at this
      cases this.2)]
     exact hf
  ·rename_i hn
   refine .inr ⟨fun hdst=>?_,?_⟩
   ·have:=(c.edge i o ho).2.2 t hdst
    rw[hn]at this
    cases this
   ·unfold Zz
    rw[hn]
    exact hf
 case hN1=>
  intro n hn
  rcases hn with hn|⟨j,hj,hDj,y,hy,h1⟩
  ·exact .inl hn
  ·exact .inr ⟨j,hj,by simp[kg,hDj],y,hy,h1⟩
 case hN2=>exact fun n h1 h2=> .inr ⟨i,hi,by simp[kg],x,hx,h1,h2⟩
 case hN3=>
  intro n hn hc
  rcases hn with hn|⟨j,hj,hDj,y,hy,h1⟩
  ·omega
  ·have:=c.uniq hy hx h1.1 h1.2 hc.1 hc.2
   subst this
   rw[hD]at hDj;cases hDj
 case hH=>
  intro n e hf hge
  obtain⟨hng,hf⟩:=gi hf
  have hngi:n ∉ gone x:=fun hm=>by
   have:xG r (L ops.size (kg D i)) n=true:=yA.2 ⟨i,jT.2 ⟨hi,by simp[kg]⟩,x,hx,hm⟩
   rw[hng]at this
   cases this
  have hngD:xG r (L ops.size D) n=false:=by
   rcases hq:xG r (L ops.size D) n with _|_
   ·rfl
   ·obtain⟨j,hj,y,hy,hgy⟩:=yA.1 hq
    rw[jT]at hj
    have:xG r (L ops.size (kg D i)) n=true:=yA.2 ⟨j,jT.2 ⟨hj.1,by simp[kg,hj.2]⟩,y,hy,hgy⟩
    rw[hng]at this
    cases this
  rw[Option.map_eq_some_iff]at hf
  obtain⟨e0,he0,hae⟩:=hf
  by_cases hnew:∃e1,zB (news x) n=some e1
  ·obtain⟨e1,hfe⟩:=hnew
   have hnm:=kV hfe
   have hb0:=c.base_new (S:=S) (jT.2 ⟨hi,by simp[kg]⟩:i∈L ops.size (kg D i)) hx hfe
   rw[hb0]at he0
   cases he0
   have hno:ji (xr r (L ops.size (kg D i))) n=none:=by
    refine vc fun cs hcs=>?_
    obtain⟨j,hj,y,hy,hw⟩:=zat hcs
    rw[jT]at hj
    obtain⟨e2,u2,hf2,_,_,_⟩:=mr hw
    obtain⟨s1,s2,s3,s4⟩:=c.seen hj.1 hy hf2
    rcases s4 with s4|⟨k,hk,hbk,z,hz,z1,z2⟩
    ·omega
    ·have:=c.uniq hz hx z1 z2 hnm.1 hnm.2.1
     subst this
     by_cases hji:j=k
     ·subst hji
      rw[hx]at hy;cases hy
      omega
     ·have hDj:D j=true:=by simpa [kg,hji]using hj.2
      have:=hcl j hj.1 hDj k hbk
      rw[hD]at this;cases this
   unfold yz at hae
   rw[hno]at hae
   subst hae
   exact .inl ⟨hnm.1,hnm.2.2.2,hnm.2.2.1,fun m hm=>hal m (hs.news n _ hfe m hm)⟩
  ·
   have hbase:yy r S (L ops.size D) n=some e0:=by
    rcases xH he0 with⟨k,hk,y,hy,hfy⟩|hs'
    ·rw[jT]at hk
     by_cases hki:k=i
     ·subst hki
      rw[hx]at hy;cases hy
      exact absurd ⟨_,hfy⟩ hnew
     ·exact c.base_new (jT.2 ⟨hk.1,by simpa [kg,hki]using hk.2⟩) hy hfy
    ·rw[c.base_old (c.heap n e0 hs')];exact hs'
   by_cases hw:∃cs,(n,cs)∈wrote x
   ·obtain⟨cs,hw⟩:=hw
    obtain⟨ev,u,hfv,hfu,hov,hcs⟩:=mr hw
    obtain⟨u',hu',hug,huk,hue,hun⟩:=hs.seen n ev hfv hov hngi
    rw[hfu]at hu'
    cases hu'
    obtain⟨s1,s2,s3,s4⟩:=c.seen hi hx hfv
    have hlast:ji (xr r (L ops.size (kg D i))) n=ji (wrote x) n:=by
     refine zdG hx _ hi (by simp[kg]) (fun j hj hij hpj y hy cs' hw'=>?_) ⟨cs,hw⟩
     have hDj:D j=true:=by
      have:¬j=i:=by omega
      simpa [kg,this]using hpj
     have:=c.writers hcl hi hD s2 hj hDj hy hw'
     have:=((c.edge i o ho).2.1 j this).1
     omega
    obtain⟨d,hd⟩:=Ka hw
    have hdc:d=u.blk.cells:=by
     obtain⟨_,u2,_,hu2,_,hc2⟩:=mr (VI hd)
     rw[hfu]at hu2
     cases hu2
     exact hc2
    have hve:=(gi (hVH n ev hfv)).2
    rw[hbase]at hve
    simp only[Option.map_some,Option.some.injEq]at hve
    have hshape:ev.g=e0.g/\ev.blk.kind=e0.blk.kind/\ev.blk.elem=e0.blk.elem:=by
     rw[<-hve]
     unfold yz
     split<;>exact⟨rfl,rfl,rfl⟩
    unfold yz at hae
    rw[hlast,hd]at hae
    dsimp only at hae
    have heg:e.g=e0.g:=by rw[<-hae]
    have heb:e.blk=u.blk:=by
     rw[<-hae]
     have hk2:u.blk.kind=e0.blk.kind:=huk.trans hshape.2.1
     have he2:u.blk.elem=e0.blk.elem:=hue.trans hshape.2.2
     show(⟨d,e0.blk.elem,e0.blk.kind⟩:Blk)=u.blk
     rw[hdc,<-hk2,<-he2]
    have hgv:qq ρ ev.g:=by rw[hshape.1,<-heg];exact hge
    refine .inr (.inl ⟨ev,u,hfv,hgv,hov,hfu,by rw[hug];exact hgv,huk,hue,heb,fun m hm=>?_⟩)
    rw[heb]at hm
    exact hal m (hun m hm)
   ·have hsame:mj r S (L ops.size D) n=some e:=by
     refine zau hngD ?_
     rw[hbase]
     simp only[Option.map_some,Option.some.injEq]
     rw[<-hae]
     refine Kf (Eq.symm (ZA _ (fun j hj hDj=>by simp[kg,hDj]) (fun j hj hpj hDj y hy cs hw'=>?_))) e0
     have hji:j=i:=by
      rcases Classical.em (j=i)with h1|h1
      ·exact h1
      ·exfalso;simp[kg,h1]at hpj;rw[hDj]at hpj;cases hpj
     subst hji
     rw[hx]at hy;cases hy
     exact hw ⟨cs,hw'⟩
    by_cases hvis:∃ev,zB x.V.heap n=some ev/\ev.blk.own=true
    ·obtain⟨ev,hfv,hov⟩:=hvis
     obtain⟨u,hfu,hug,huk,hue,hun⟩:=hs.seen n ev hfv hov hngi
     have hev:=hVH n ev hfv
     rw[hsame]at hev
     cases hev
     have hcells:e.blk.cells=u.blk.cells:=by
      rcases hsm:SV.sameL e.blk.cells u.blk.cells with _|_
      ·exfalso
       refine hw ⟨u.blk.cells,?_⟩
       unfold Sx.wrote
       rw[List.mem_filterMap]
       refine⟨(n,e),zG hfv,?_⟩
       simp only[hfv,hfu,hov,hsm]
       rfl
      ·exact SV.sameL_eq _ _ hsm
     have hblk:e.blk=u.blk:=by
      cases he:e.blk with
      |mk c1 c2 c3=>
       cases hu:u.blk with
       |mk d1 d2 d3=>
        rw[he,hu]at hcells huk hue
        simp only at hcells huk hue
        rw[hcells,huk,hue]
     refine .inr (.inl ⟨e,u,hfv,hge,hov,hfu,by rw[hug];exact hge,huk,hue,hblk,fun m hm=>?_⟩)
     rw[hblk]at hm
     exact hal m (hun m hm)
    ·refine .inr (.inr ⟨hsame,fun ev hfv=>?_⟩)
     rcases hov:ev.blk.own with _|_
     ·rfl
     ·exact absurd ⟨ev,hfv,hov⟩ hvis
end
end Go.Proofs.YtoakpnoajmngmaaGreatDoor.Sx
namespace Go.Proofs.YtoakpnoajmngmaaGreatDoor.Sx
open Go.RowKit (Below)
section
variable {P:Program} {et:TypeId} {h:zl} {pc:List E} {ops:Array Oper} {S:St} {bl:List Nat} {tg:List (List Nat)} {vs:List VC}
theorem QP {r r':RS} {l:List Nat} (hr:∀j∈l,r j=r' j) (n:Nat):jB r S l n=jB r' S l n:=by
 unfold jB
 congr 1
 induction l with
 |nil=>rfl
 |cons a l ih=>
  rw[List.any_cons,List.any_cons,hr a (.head _),ih (fun j hj=>hr j (.tail _ hj))]
theorem Kg {r r':RS} {l:List Nat} (hr:∀j∈l,r j=r' j) (tgi:List Nat) (st:Bool) (x:OR) (dst:Option Tmp):vF r S l tgi st x dst=vF r' S l tgi st x dst:=by
 have:jB r S l=jB r' S l:=funext (QP hr)
 unfold vF
 rw[this]
theorem gk (hc:QO P ops S bl=true):P.follows .mixedOrders=true/\
  (∀i,i<ops.size->∃o,ops[i]? =some o/\(∀j∈jA o,j<i)/\(∀j,zJ bl i j=true->j<i/\∃e∈jA o,e=j\/zJ bl e j=true)/\(∀t,o.dst=some t->zfo ops.toList t=some i))/\
  (∀n e,zB S.heap n=some e->n<S.next):=by
 unfold QO at hc
 simp only[Bool.and_eq_true,List.all_eq_true,decide_eq_true_eq,List.mem_range]at hc
 obtain⟨⟨h1,h2⟩,h3⟩:=hc
 refine⟨h1,fun i hi=>?_,fun n e hf=>h3 _ (zG hf)⟩
 have:=h2 i hi
 split at this
 ·rename_i o ho
  simp only[Bool.and_eq_true,List.all_eq_true,decide_eq_true_eq,List.any_eq_true,Bool.or_eq_true,beq_iff_eq]at this
  refine⟨o,ho,this.1.1.1,fun j hj=>?_,fun t ht=>?_⟩
  ·have hji:j<i:=by
    rcases Nat.lt_or_ge j i with h|h
    ·exact h
    ·exfalso
     unfold zJ at hj
     rw[Nat.testBit_lt_two_pow (Nat.lt_of_lt_of_le this.1.1.2 (Nat.pow_le_pow_right (by omega) h))]at hj
     cases hj
   refine⟨hji,?_⟩
   have h5:=this.1.2 j (by simpa using hji)
   rw[hj]at h5
   simpa using h5
  have h4:=this.2
  rw[ht]at h4
  simpa using h4
 ·cases this
theorem zmE (hc:QO P ops S bl=true) {rs:List OR} (hd:Kd P et h pc ops S bl tg ops.size true ops.toList []=some (rs,vs)):Ctx P et h pc ops S bl tg (fun j=>rs[j]?) vs/\rs.length=ops.size:=by
 obtain⟨p1,p2,p3⟩:=gk hc
 obtain⟨f1,f2,f3⟩:=YA hd
 simp only[List.length_nil,Nat.zero_add,Array.length_toList]at f1 f3
 have hfact:∀i,i<ops.size->∃o x vi,ops[i]? =some o/\rs[i]? =some x/\Fact P et h pc ops S bl tg ops.size (rs.take i) o x vi/\∀v∈vi,v∈vs:=by
  intro i hi
  obtain⟨o,ho,_⟩:=p2 i hi
  obtain⟨x,vi,a1,a2,a3⟩:=f3 i o (by simpa using ho)
  exact⟨o,x,vi,ho,a1,a2,a3⟩
 have hlen:∀i,i<=ops.size->(rs.take i).length=i:=by intro i hi;rw[List.length_take];omega
 have hlt:∀i j,i<ops.size->j∈L ops.size (zJ bl i)->j<i:=by
  intro i j hi hj
  obtain⟨o,ho,_,h2,_⟩:=p2 i hi
  exact(h2 j (jT.1 hj).2).1
 have hpre:∀i,i<ops.size->∀j∈L ops.size (zJ bl i),(fun j=>(rs.take i)[j]?) j=(fun j=>rs[j]?) j:=by
  intro i hi j hj
  have:=hlt i j hi hj
  simp only[List.getElem?_take]
  rw[if_pos this]
 have hlast0:jk S (rs.take 0)=S.next:=rfl
 have hlast:∀i x,i<ops.size->rs[i]? =some x->jk S (rs.take (i+1))=x.U.next:=by
  intro i x hi hx
  unfold jk
  rw[List.getLast?_eq_getElem?,hlen (i+1) (by omega)]
  simp only[Nat.add_sub_cancel,List.getElem?_take]
  rw[if_pos (by omega),hx]
 have hnext:∀i x,i<ops.size->rs[i]? =some x->x.V.next=jk S (rs.take i)/\x.V.next<=x.U.next:=by
  intro i x hi hx
  obtain⟨o,x',vi,ho,hx',hf,_⟩:=hfact i hi
  rw[hx]at hx'
  cases hx'
  obtain⟨kt,kh,G,hV⟩:=hf.view
  refine⟨by rw[hV];rfl,?_⟩
  have:=hf.ok
  rw[hlen i (by omega)]at this
  exact(gj this).le
 have hlow:∀i x,i<ops.size->rs[i]? =some x->S.next<=x.V.next:=by
  intro i
  induction i with
  |zero=>intro x hi hx;rw[(hnext 0 x hi hx).1,hlast0];exact Nat.le_refl _
  |succ i ih=>
   intro x hi hx
   obtain⟨o,y,vi,ho,hy,_,_⟩:=hfact i (by omega)
   have h1:=ih y (by omega) hy
   have h2:=(hnext i y (by omega) hy).2
   rw[(hnext (i+1) x hi hx).1,hlast i y (by omega) hy]
   omega
 have hmono:∀j i x y,j<i->i<ops.size->rs[j]? =some x->rs[i]? =some y->x.U.next<=y.V.next:=by
  intro j i
  induction i with
  |zero=>intro x y hj;omega
  |succ i ih=>
   intro x y hj hi hx hy
   obtain⟨o,z,vi,ho,hz,_,_⟩:=hfact i (by omega)
   rw[(hnext (i+1) y hi hy).1,hlast i z (by omega) hz]
   by_cases he:j=i
   ·subst he
    rw[hx]at hz;cases hz
    exact Nat.le_refl _
   ·have h1:=ih x z (by omega) (by omega) hx hz
    have h2:=(hnext i z (by omega) hz).2
    omega
 have hsz:∀i x,rs[i]? =some x->i<ops.size:=fun i x hx=>by have:=(List.getElem?_eq_some_iff.1 hx).1;omega
 refine⟨⟨fun i hi=>?_,fun j i x y hj hx hy=>hmono j i x y hj (hsz i y hy) hx hy,fun i x hx=>⟨hlow i x (hsz i x hx) hx,(hnext i x (hsz i x hx) hx).2⟩,fun i o ho=>?_,p3⟩,f1⟩
 ·obtain⟨o,x,vi,ho,hx,hf,hvi⟩:=hfact i hi
  obtain⟨kt,kh,G,hV⟩:=hf.view
  have hn:=(hnext i x hi hx).1
  rw[hlen i (by omega),Kc (hpre i hi),<-hn]at hV
  have hok:=hf.ok
  rw[hlen i (by omega),Kg (hpre i hi)]at hok
  exact⟨o,x,vi,ho,hx,⟨kt,kh,G,hV⟩,hf.chk,hf.step,hok,hvi⟩
 ·have hi:i<ops.size:=(Array.getElem?_eq_some_iff.1 ho).1
  obtain⟨o',ho',h1⟩:=p2 i hi
  rw[ho]at ho'
  cases ho'
  exact h1
theorem Kh {r:RS} {D:Nat->Bool} {N:Nat} (hD:∀j,D j=false) (n:Nat):mj r S (L N D) n=zB S.heap n:=by
 have:L N D=[]:=by unfold L;rw[List.filter_eq_nil_iff];intro j _;rw[hD j];simp
 rw[this]
 unfold mj yz
 simp only[yy,xr,List.flatMap_nil,ji,xG,List.any_nil,Bool.false_eq_true,if_false]
 cases zB S.heap n<;>rfl
theorem YB {r:RS} (c:Ctx P et h pc ops S bl tg r vs) {ρ:Env} (he:ρ.et=et) (hh:HOK P ρ h) (hpc:qq ρ pc) (hv:jx ρ vs) {base:Nat->Prop} {w0:World} {Q:Exit->Act->World->Prop} {b0:Bd} {dfs:List Deferred}
  (hQ:∀b w a,a.defers=dfs->zM b0 b (· <S.next)->GRel ρ b base w0 w (Zz r ops.toList S (L ops.size fun _=>true)) (mj r S (L ops.size fun _=>true)) (NS S r (fun _=>true) ops.size) a.tmps S.nt->Q .normal a w):
  ∀(fuel:Nat) (listed:Array Bool) (D:Nat->Bool) (b:Bd) (w:World) (a:Act),listed.size=ops.size->(∀j,j<ops.size->listed.getD j true=D j)->(∀j,ops.size<=j->D j=false)->(L ops.size fun j=> !D j).length<=fuel->ZB bl ops.size D->a.defers=dfs->zM b0 b (· <S.next)->
   GRel ρ b base w0 w (Zz r ops.toList S (L ops.size D)) (mj r S (L ops.size D)) (NS S r D ops.size) a.tmps S.nt->wpAny P .any ops Q fuel listed a w:=by
 have hready:∀(listed:Array Bool) (D:Nat->Bool),listed.size=ops.size->(∀j,j<ops.size->listed.getD j true=D j)->∀i,i∈Region.ready .any ops listed↔i<ops.size/\D i=false/\∀o,ops[i]? =some o->∀j∈jA o,D j=true:=by
  intro listed D hls hl i
  have hget:∀j,j<ops.size->∀d,listed.getD j d=D j:=by
   intro j hj d
   rw[<-hl j hj]
   have hjl:j<listed.size:=by omega
   simp[Array.getD,hjl]
  unfold Region.ready
  simp only[List.mem_filter,List.mem_range,Bool.and_eq_true,Bool.not_eq_true']
  constructor
  ·rintro⟨h1,h2,h3⟩
   refine⟨h1,by rw[<-hget i h1];exact h2,fun o ho j hj=>?_⟩
   rw[ho]at h3
   simp only[Option.map_some,Option.getD_some,Array.all_eq_true]at h3
   unfold jA at hj
   rw[List.mem_map]at hj
   obtain⟨e,he,rfl⟩:=hj
   rw[List.mem_filter]at he
   have hel:=(c.edge i o ho).1 e.on (by unfold jA;exact List.mem_map.2 ⟨e,List.mem_filter.2 he,rfl⟩)
   have hmem:e∈o.after:=by simpa using he.1
   obtain⟨k,hk,hke⟩:=Array.mem_iff_getElem.1 hmem
   have:=h3 k hk
   rw[hke]at this
   simp only[he.2,Bool.not_true,Bool.false_or]at this
   rw[<-hget e.on (by omega)];exact this
  ·rintro⟨h1,h2,h3⟩
   refine⟨h1,by rw[hget i h1];exact h2,?_⟩
   have ho:ops[i]? =some ops[i]:=by simp[h1]
   rw[ho]
   simp only[Option.map_some,Option.getD_some,Array.all_eq_true]
   intro k hk
   rcases hbd:Region.binds .any ops[i].after[k]with _|_
   ·rfl
   ·simp only[Bool.not_true,Bool.false_or]
    have hmem:ops[i].after[k].on∈jA ops[i]:=by
     unfold jA
     exact List.mem_map.2 ⟨ops[i].after[k],List.mem_filter.2 ⟨by simp,hbd⟩,rfl⟩
    have hel:=(c.edge i _ ho).1 _ hmem
    rw[hget _ (by omega)]
    exact h3 _ ho _ hmem
 have hdone:∀(listed:Array Bool) (D:Nat->Bool),listed.size=ops.size->(∀j,j<ops.size->listed.getD j true=D j)->Region.ready .any ops listed=[]->∀i,i<ops.size->D i=true:=by
  intro listed D hls hl hr i
  induction i using Nat.strongRecOn with
  |_ i ih=>
   intro hi
   rcases hDi:D i with _|_
   ·exfalso
    have:i∈Region.ready .any ops listed:=by
     rw[hready listed D hls hl]
     refine⟨hi,hDi,fun o ho j hj=>?_⟩
     have:=(c.edge i o ho).1 j hj
     exact ih j this (by omega)
    rw[hr]at this
    cases this
   ·rfl
 have hall:∀(D:Nat->Bool),(∀i,i<ops.size->D i=true)->L ops.size D=L ops.size (fun _=>true):=by
  intro D hD
  unfold L
  exact List.filter_congr fun j hj=>by rw[hD j (by simpa using hj)]
 have hfin:∀(listed:Array Bool) (D:Nat->Bool) (b:Bd) (w:World) (a:Act),listed.size=ops.size->(∀j,j<ops.size->listed.getD j true=D j)->Region.ready .any ops listed=[]->a.defers=dfs->zM b0 b (· <S.next)->
   GRel ρ b base w0 w (Zz r ops.toList S (L ops.size D)) (mj r S (L ops.size D)) (NS S r D ops.size) a.tmps S.nt->Q .normal a w:=by
  intro listed D b w a hls hl hr hda hag hg
  have hD:=hdone listed D hls hl hr
  rw[hall D hD]at hg
  refine hQ b w a hda hag ?_
  have hNe:NS S r D ops.size=NS S r (fun _=>true) ops.size:=by
   funext n
   refine propext ⟨fun hn=>?_,fun hn=>?_⟩
   ·rcases hn with hn|⟨j,hj,_,y,hy⟩
    ·exact .inl hn
    ·exact .inr ⟨j,hj,rfl,y,hy⟩
   ·rcases hn with hn|⟨j,hj,_,y,hy⟩
    ·exact .inl hn
    ·exact .inr ⟨j,hj,hD j hj,y,hy⟩
  rw[<-hNe];exact hg
 intro fuel
 induction fuel with
 |zero=>
  intro listed D b w a hls hl hDo hf hcl hda hag hg
  have hr:Region.ready .any ops listed=[]:=by
   rw[List.eq_nil_iff_forall_not_mem]
   intro i hi
   rw[hready listed D hls hl]at hi
   have hm:i∈L ops.size fun j=> !D j:=jT.2 ⟨hi.1,by simp[hi.2.1]⟩
   have:(L ops.size fun j=> !D j)=[]:=List.eq_nil_of_length_eq_zero (by omega)
   rw[this]at hm
   cases hm
  exact⟨hr,hfin listed D b w a hls hl hr hda hag hg⟩
 |succ fuel ih=>
  intro listed D b w a hls hl hDo hf hcl hda hag hg
  refine⟨fun hr=>hfin listed D b w a hls hl hr hda hag hg,fun i hi=>?_⟩
  rw[hready listed D hls hl]at hi
  obtain⟨hi1,hi2,hi3⟩:=hi
  have ho:ops[i]? =some ops[i]:=by simp[hi1]
  have hb:∀j,zJ bl i j=true->D j=true:=by
   intro j hj
   obtain⟨_,e,hee,hej⟩:=(c.edge i _ ho).2.1 j hj
   have hDe:=hi3 _ ho e hee
   have hel:=(c.edge i _ ho).1 e hee
   rcases hej with rfl|hej
   ·exact hDe
   ·exact hcl e (by omega) hDe j hej
  refine c.one he hh hpc hv hcl hi1 hi2 hb hg (fun b' w' a' e1 e2 e3=>?_)
  refine ih _ (kg D i) b' w' a' (by simpa using hls) (fun j hj=>?_) (fun j hj=>?_) ?_ ?_ (e1.trans hda) (hag.trans e2 fun n hn=>hn) e3
  ·have hjl:j<listed.size:=by omega
   have hjl2:j<(listed.setIfInBounds i true).size:=by simpa using hjl
   by_cases hji:j=i
   ·subst hji
    simp[kg,Array.getD,hls,hi1]
   ·have h1:=hl j hj
    simp only[Array.getD_eq_getD_getElem?]at h1 ⊢
    rw[Array.getElem?_setIfInBounds_ne (Ne.symm hji),h1]
    simp[kg,hji]
  ·have:¬j=i:=by omega
   simp[kg,hDo j hj,this]
  ·
   have key:∀N,i<N->(L N fun j=> !(kg D i j)).length+1=(L N fun j=> !D j).length:=by
    intro N
    induction N with
    |zero=>intro h;omega
    |succ N ihN=>
     intro hN
     rw[J9,J9]
     by_cases hiN:i=N
     ·subst hiN
      have h1:(L i fun j=> !(kg D i j))=L i fun j=> !D j:=by
       unfold L
       refine List.filter_congr fun j hj=>?_
       have:¬j=i:=by have:=List.mem_range.1 hj;omega
       simp[kg,this]
      rw[h1]
      simp[kg,hi2]
     ·have:=ihN (by omega)
      have h2:¬N=i:=fun e=>hiN e.symm
      simp only[kg,h2,decide_false,Bool.or_false,List.length_append]at this ⊢
      omega
   have:=key ops.size hi1
   omega
  ·intro k hk hDk j hj
   by_cases hki:k=i
   ·subst hki
    simp[kg,hb j hj]
   ·have hDk':D k=true:=by simpa [kg,hki]using hDk
    simp[kg,hcl k hk hDk' j hj]
end
theorem yX {P:Program} {et:TypeId} {ρ:Env} (he:ρ.et=et) (h:zl) (hh:HOK P ρ h):DOK P ρ (zi P et h):=by
 intro ops pc S t vs hs hpc hv id b base w0 w a hr
 unfold zi at hs
 dsimp only at hs
 split at hs
 ·rename_i hchk
  have key:∃tg rs,Kd P et h pc ops S (zo3 ops.toList []) tg ops.size true ops.toList []=some (rs,vs)/\t= .leaf (ku (fun j=>rs[j]?) ops.toList S (L ops.size fun _=>true) (fun _=>false) (fun _=>false) (zmA ops.toList S) (zh2 (fun j=>rs[j]?) S (L ops.size fun _=>true)) [] (jk S rs)):=by
   split at hs
   ·rename_i tg rs vs' hx
    cases hs
    split at hx
    ·split at hx
     ·rename_i rs0 _ _
      rw[Option.map_eq_some_iff]at hx
      obtain⟨y,hy,hye⟩:=hx
      cases hye
      exact⟨_,_,hy,rfl⟩
     ·cases hx
    ·rw[Option.map_eq_some_iff]at hx
     obtain⟨y,hy,hye⟩:=hx
     cases hye
     exact⟨[],rs,hy,rfl⟩
   ·cases hs
  obtain⟨tg,rs,hd,rfl⟩:=key
  obtain⟨c,hlen⟩:=zmE hchk hd
  obtain⟨KT,_,hheap⟩:=gk hchk
  refine wp_region_any KT ?_
  have hg0:GRel ρ b base w0 {w with drawn:=w.drawn+1} (Zz (fun j=>rs[j]?) ops.toList S (L ops.size fun _=>false)) (mj (fun j=>rs[j]?) S (L ops.size fun _=>false)) (NS S (fun j=>rs[j]?) (fun _=>false) ops.size) a.tmps S.nt:=by
   have hN:∀n,n<S.next->NS S (fun j=>rs[j]?) (fun _=>false) ops.size n:=fun n hn=> .inl hn
   refine⟨fun n e hf hge=>?_,fun n m e k hf hk hge hgk ho hok heq=>?_,fun i e hf=>?_,⟨hr.below.os,hr.below.tape,hr.below.output,hr.below.size,hr.below.block⟩,hr.base,hr.nt,hr.kept⟩
   ·rw[Kh (fun _=>rfl)]at hf
    obtain⟨m1,m2,m3⟩:=hr.heap.mem n e hf hge
    exact⟨hN n m1,m2,SV.okL_mono hN _ m3⟩
   ·rw[Kh (fun _=>rfl)]at hf hk
    exact hr.heap.inj n m e k hf hk hge hgk ho hok heq
   ·unfold Zz at hf
    have hf:zB S.tmps i=some e:=by
     split at hf
     ·rw[if_neg (by simp[L])]at hf
      exact hf
     ·exact hf
    obtain⟨t1,t2⟩:=hr.tmps i e hf
    exact⟨fun hge=>⟨(t1 hge).1,SV.ok_mono hN _ (t1 hge).2⟩,t2⟩
  refine YB c he hh hpc hv (b0:=b) (dfs:=a.defers) (base:=base) (w0:=w0) ?_ ops.size _ (fun _=>false) b _ a (by simp) (fun j hj=>by simp[Array.getD,hj]) (fun _ _=>rfl) ?_ (fun _ _ hc=>by cases hc) rfl (zM.refl b _) hg0
  ·intro b' w' a' hda hag hg
   have hlast:S.next<=jk S rs/\∀n,NS S (fun j=>rs[j]?) (fun _=>true) ops.size n->n<jk S rs:=by
    unfold jk
    rw[List.getLast?_eq_getElem?]
    by_cases h0:rs.length=0
    ·have hnone:rs[rs.length-1]? =none:=by rw[List.getElem?_eq_none];omega
     rw[hnone]
     refine⟨Nat.le_refl _,fun n hn=>?_⟩
     rcases hn with hn|⟨j,hj,_⟩
     ·exact hn
     ·omega
    ·have hsome:rs[rs.length-1]? =some rs[rs.length-1]:=by rw[List.getElem?_eq_getElem]
     rw[hsome]
     dsimp only
     have hlo:=c.low (rs.length-1) _ hsome
     refine⟨by omega,fun n hn=>?_⟩
     rcases hn with hn|⟨j,hj,_,y,hy,y1,y2⟩
     ·omega
     ·by_cases hje:j=rs.length-1
      ·subst hje
       have hy':rs[rs.length-1]? =some y:=hy
       rw[hsome]at hy'
       cases hy'
       exact y2
      ·have:=c.mono j (rs.length-1) y _ (by omega) hy hsome
       omega
   refine⟨rfl,hda,b',hag,⟨⟨fun n e hf hge=>?_,fun n m e k hf hk hge hgk ho hok heq=>?_⟩,fun i e hf=>?_,hg.below,hg.base,hg.nt,hg.kept⟩,hlast.1⟩
   ·obtain⟨m1,m2,m3⟩:=hg.mem n e (kU hf).1 hge
    exact⟨hlast.2 n m1,m2,SV.okL_mono hlast.2 _ m3⟩
   ·exact hg.inj n m e k (kU hf).1 (kU hk).1 hge hgk ho hok heq
   ·obtain⟨t1,t2⟩:=hg.tmps i e (ml hf).1
    exact⟨fun hge=>⟨(t1 hge).1,SV.ok_mono hlast.2 _ (t1 hge).2⟩,t2⟩
  ·unfold L
   have:=List.length_filter_le (fun j=> !false) (List.range ops.size)
   rw[List.length_range]at this
   exact this
 ·cases hs
end Go.Proofs.YtoakpnoajmngmaaGreatDoor.Sx
namespace Go.Proofs.YtoakpnoajmngmaaGreatDoor.Sx
open Go.RowKit (Below)
def zo4 (l:List Nat) (i:Nat):Bool:=l.any (Nat.beq i)
def zo5 {α:Type}:List (Nat × List α)->Nat->List α
 |[],_=>[]
 |(g,k)::l,f=>if Nat.beq g f then k else zo5 l f
def qb (sum:zl) (keeps:List (Nat × List (Nat × List Nat))) (bound big:Nat):Cfg:=⟨sum,fun f=>⟨fun id=>zo4 (zo5 (zo5 keeps f) id),false,bound,big,0⟩⟩
def vP:Nat:=1000
def E.fine (D B:List Nat):E->Bool
 | .v n=>Nat.blt n vP||D.any (Nat.beq n)
 | .bv n=>Nat.blt n vP||B.any (Nat.beq n)
 | .un _ a=>a.fine D B
 | .bin _ a b=>a.fine D B&&b.fine D B
 | .ite d a b=>d.fine D B&&a.fine D B&&b.fine D B
 | .ap _ a=>a.fine D B
 | .cons a b=>a.fine D B&&b.fine D B
 |_=>true
structure Same (ρ ρ':Env) (D B:List Nat):Prop where
 iv:∀n,n<vP\/n∈D->ρ'.iv n=ρ.iv n
 bv:∀n,n<vP\/n∈B->ρ'.bv n=ρ.bv n
 fn:ρ'.fn=ρ.fn
 fb:ρ'.fb=ρ.fb
 et:ρ'.et=ρ.et
 ov:ρ'.ov=ρ.ov
 fl:ρ'.fl=ρ.fl
 mv:ρ'.mv=ρ.mv
 es:ρ'.es=ρ.es
 mn:ρ'.mn=ρ.mn
 ol:ρ'.ol=ρ.ol
theorem YC {n:Nat} {D:List Nat} (h:D.any (Nat.beq n)=true):n∈D:=by
 rw[List.any_eq_true]at h
 obtain⟨x,hx,hn⟩:=h
 rw[Nat.eq_of_beq_eq_true hn];exact hx
theorem kv {n m:Nat} (h:Nat.blt n m=true):n<m:=by
 unfold Nat.blt at h
 exact Nat.le_of_ble_eq_true h
theorem E.fine_same {ρ ρ':Env} {D B:List Nat} (h:Same ρ ρ' D B):(e:E)->e.fine D B=true->e.i ρ'=e.i ρ/\e.b ρ'=e.b ρ/\e.l ρ'=e.l ρ:=by
 intro e
 induction e with
 |v n=>
  intro hf
  simp only[E.fine,Bool.or_eq_true]at hf
  refine⟨?_,rfl,rfl⟩
  simp only[E.i]
  exact h.iv n (hf.imp kv YC)
 |bv n=>
  intro hf
  simp only[E.fine,Bool.or_eq_true]at hf
  refine⟨rfl,?_,rfl⟩
  simp only[E.b]
  exact h.bv n (hf.imp kv YC)
 |c z=>exact fun _=>⟨rfl,rfl,rfl⟩
 |bc b=>exact fun _=>⟨rfl,rfl,rfl⟩
 |nil=>exact fun _=>⟨rfl,rfl,rfl⟩
 |un o a ih=>
  intro hf
  obtain⟨h1,h2,h3⟩:=ih hf
  cases o<;>simp[E.i,E.b,E.l,h1,h2]
 |bin o a b iha ihb=>
  intro hf
  simp only[E.fine,Bool.and_eq_true]at hf
  obtain⟨a1,a2,a3⟩:=iha hf.1
  obtain⟨b1,b2,b3⟩:=ihb hf.2
  cases o<;>simp[E.i,E.b,E.l,a1,a2,a3,b1,b2,b3]
 |ite d a b ihd iha ihb=>
  intro hf
  simp only[E.fine,Bool.and_eq_true]at hf
  obtain⟨d1,d2,d3⟩:=ihd hf.1.1
  obtain⟨a1,a2,a3⟩:=iha hf.1.2
  obtain⟨b1,b2,b3⟩:=ihb hf.2
  simp[E.i,E.b,E.l,d2,a1,a2,a3,b1,b2,b3]
 |ap k a ih=>
  intro hf
  obtain⟨h1,h2,h3⟩:=ih hf
  simp[E.i,E.b,E.l,h3,h.fn,h.fb,h.fl]
 |cons a b iha ihb=>
  intro hf
  simp only[E.fine,Bool.and_eq_true]at hf
  obtain⟨a1,a2,a3⟩:=iha hf.1
  obtain⟨b1,b2,b3⟩:=ihb hf.2
  simp[E.i,E.b,E.l,a1,b3]
inductive Df where
 |n (h:Nat) (e:E)|b (h:Nat) (e:E)|no
def zax:VC->Df
 |⟨[],.bin .eq (.v h) e⟩=> .n h e
 |⟨[],.ite (.bv h) e (.un .not e')⟩=>if e.same e' then .b h e else .no
 |_=> .no
theorem zfq {v:VC} {h:Nat} {e:E} (hd:zax v= .n h e) {ρ:Env} (he:ρ.iv h=e.i ρ):v.holds ρ:=by
 unfold zax at hd
 split at hd
 ·cases hd
  intro _
  simp[E.b,E.i,he]
 ·split at hd<;>cases hd
 ·cases hd
theorem zfr {v:VC} {h:Nat} {e:E} (hd:zax v= .b h e) {ρ:Env} (he:ρ.bv h=e.b ρ):v.holds ρ:=by
 unfold zax at hd
 split at hd
 ·cases hd
 ·split at hd
  ·rename_i hs
   cases hd
   rw[<-E.same_eq hs]
   intro _
   simp only[E.b,he]
   cases e.b ρ<;>rfl
  ·cases hd
 ·cases hd
def mu:List (Nat × E)->Nat->Option E
 |[],_=>none
 |(m,e)::l,n=>if Nat.beq m n then some e else mu l n
theorem yY {l:List (Nat × E)} {n:Nat} {e:E} (h:mu l n=some e):(n,e)∈l:=by
 induction l with
 |nil=>cases h
 |cons a l ih=>
  obtain⟨m,y⟩:=a
  simp only[mu]at h
  split at h
  ·rename_i hm;cases h;rw[Nat.eq_of_beq_eq_true hm];exact .head _
  ·exact .tail _ (ih h)
def qL:List VC->List (Nat × E)->List (Nat × E)->List VC
 |[],_,_=>[]
 |v::l,D,B=>match zax v with
  | .n h e=>match mu D h with
    |some e'=>if e.same e' then qL l D B else v::qL l D B
    |none=>if Nat.ble vP h&&e.fine (D.map (·.1)) (B.map (·.1))then qL l ((h,e)::D) B else v::qL l D B
  | .b h e=>match mu B h with
    |some e'=>if e.same e' then qL l D B else v::qL l D B
    |none=>if Nat.ble vP h&&e.fine (D.map (·.1)) (B.map (·.1))then qL l D ((h,e)::B)else v::qL l D B
  | .no=>v::qL l D B
def Env.setI (ρ:Env) (h:Nat) (z:Int):Env:= {ρ with iv:=fun n=>if n=h then z else ρ.iv n}
def Env.setB (ρ:Env) (h:Nat) (z:Bool):Env:= {ρ with bv:=fun n=>if n=h then z else ρ.bv n}
theorem mw {l:List (Nat × E)} {n:Nat} (h:mu l n=none):¬n∈l.map (·.1):=by
 induction l with
 |nil=>simp
 |cons a l ih=>
  obtain⟨m,y⟩:=a
  simp only[mu]at h
  split at h
  ·cases h
  ·rename_i hm
   simp only[List.map_cons,List.mem_cons,not_or]
   exact⟨fun e=>hm (by rw[e];exact Nat.beq_refl m),ih h⟩
structure DefOk (ρ:Env) (D B:List (Nat × E)):Prop where
 n:∀h e,(h,e)∈D->ρ.iv h=e.i ρ/\e.fine (D.map (·.1)) (B.map (·.1))=true
 b:∀h e,(h,e)∈B->ρ.bv h=e.b ρ/\e.fine (D.map (·.1)) (B.map (·.1))=true
theorem E.fine_mono {D D' B B':List Nat} (hD:∀n,n∈D->n∈D') (hB:∀n,n∈B->n∈B') (e:E):e.fine D B=true->e.fine D' B'=true:=by
 have key:∀ {L L':List Nat} {n:Nat},(∀n,n∈L->n∈L')->L.any (Nat.beq n)=true->L'.any (Nat.beq n)=true:=by
  intro L L' n h hn
  exact List.any_eq_true.2 ⟨n,h n (YC hn),Nat.beq_refl n⟩
 induction e with
 |v n=>simp only[E.fine,Bool.or_eq_true];exact fun h=>h.imp_right (key hD)
 |bv n=>simp only[E.fine,Bool.or_eq_true];exact fun h=>h.imp_right (key hB)
 |un o a ih=>exact ih
 |bin o a b iha ihb=>simp only[E.fine,Bool.and_eq_true];exact fun h=>⟨iha h.1,ihb h.2⟩
 |ite d a b ihd iha ihb=>simp only[E.fine,Bool.and_eq_true];exact fun h=>⟨⟨ihd h.1.1,iha h.1.2⟩,ihb h.2⟩
 |ap k a ih=>exact ih
 |cons a b iha ihb=>simp only[E.fine,Bool.and_eq_true];exact fun h=>⟨iha h.1,ihb h.2⟩
 |_=>exact id
theorem zh4:∀(l:List VC) (D B:List (Nat × E)) (ρ:Env),DefOk ρ D B->∃ρ',Same ρ ρ' (D.map (·.1)) (B.map (·.1))/\(∀v∈l,v.holds ρ'\/v∈qL l D B):=by
 intro l
 induction l with
 |nil=>intro D B ρ _;exact⟨ρ,⟨fun _ _=>rfl,fun _ _=>rfl,rfl,rfl,rfl,rfl,rfl,rfl,rfl,rfl,rfl⟩,fun v h=>by cases h⟩
 |cons v l ih=>
  intro D B ρ hd
  have left:∃ρ',Same ρ ρ' (D.map (·.1)) (B.map (·.1))/\(∀u∈v::l,u.holds ρ'\/u∈v::qL l D B):=by
   obtain⟨ρ',h1,h2⟩:=ih D B ρ hd
   refine⟨ρ',h1,fun u hu=>?_⟩
   cases hu with
   |head=>exact .inr (.head _)
   |tail _ hu=>exact(h2 u hu).imp_right (.tail _)
  have holds:(∀ρ',Same ρ ρ' (D.map (·.1)) (B.map (·.1))->v.holds ρ')->∃ρ',Same ρ ρ' (D.map (·.1)) (B.map (·.1))/\(∀u∈v::l,u.holds ρ'\/u∈qL l D B):=by
   intro hv
   obtain⟨ρ',h1,h2⟩:=ih D B ρ hd
   refine⟨ρ',h1,fun u hu=>?_⟩
   cases hu with
   |head=>exact .inl (hv ρ' h1)
   |tail _ hu=>exact h2 u hu
  simp only[qL]
  split
  ·rename_i h e hdf
   split
   ·rename_i e' hf
    split
    ·rename_i hs
     have hm:=hd.n h e' (yY hf)
     refine holds fun ρ' hS=>zfq hdf ?_
     rw[E.same_eq hs,hS.iv h (.inr (List.mem_map.2 ⟨_,yY hf,rfl⟩)),hm.1]
     exact(E.fine_same hS e' hm.2).1.symm
    ·exact left
   ·rename_i hf
    split
    ·rename_i hb
     simp only[Bool.and_eq_true]at hb
     have hge:vP<=h:=Nat.le_of_ble_eq_true hb.1
     have hnm:=mw hf
     have hs0:Same ρ (ρ.setI h (e.i ρ)) (D.map (·.1)) (B.map (·.1)):=⟨fun n hn=>by
      show(if n=h then _ else _)=_
      rw[if_neg]
      rintro rfl
      rcases hn with hn|hn
      ·omega
      ·exact hnm hn,fun _ _=>rfl,rfl,rfl,rfl,rfl,rfl,rfl,rfl,rfl,rfl⟩
     have hnew:DefOk (ρ.setI h (e.i ρ)) ((h,e)::D) B:=by
      refine⟨fun k x hk=>?_,fun k x hk=>?_⟩
      ·cases hk with
       |head=>exact⟨by rw[(E.fine_same hs0 e hb.2).1];simp[Env.setI],E.fine_mono (fun n hn=> .tail _ hn) (fun n hn=>hn) e hb.2⟩
       |tail _ hk=>
        obtain⟨k1,k2⟩:=hd.n k x hk
        refine⟨?_,E.fine_mono (fun n hn=> .tail _ hn) (fun n hn=>hn) x k2⟩
        rw[(E.fine_same hs0 x k2).1,hs0.iv k (.inr (List.mem_map.2 ⟨_,hk,rfl⟩)),k1]
      ·obtain⟨k1,k2⟩:=hd.b k x hk
       refine⟨?_,E.fine_mono (fun n hn=> .tail _ hn) (fun n hn=>hn) x k2⟩
       rw[(E.fine_same hs0 x k2).2.1,hs0.bv k (.inr (List.mem_map.2 ⟨_,hk,rfl⟩)),k1]
     obtain⟨ρ',h1,h2⟩:=ih ((h,e)::D) B (ρ.setI h (e.i ρ)) hnew
     have hS:Same ρ ρ' (D.map (·.1)) (B.map (·.1)):=⟨fun n hn=>(h1.iv n (hn.imp_right (.tail _))).trans (hs0.iv n hn),fun n hn=>(h1.bv n hn).trans (hs0.bv n hn),h1.fn.trans hs0.fn,h1.fb.trans hs0.fb,h1.et.trans hs0.et,h1.ov.trans hs0.ov,h1.fl.trans hs0.fl,h1.mv.trans hs0.mv,h1.es.trans hs0.es,h1.mn.trans hs0.mn,h1.ol.trans hs0.ol⟩
     refine⟨ρ',hS,fun u hu=>?_⟩
     cases hu with
     |head=>
      refine .inl (zfq hdf ?_)
      have e1:=h1.iv h (.inr (.head _))
      have e2:(ρ.setI h (e.i ρ)).iv h=e.i ρ:=by simp[Env.setI]
      rw[e1,e2]
      exact(E.fine_same hS e hb.2).1.symm
     |tail _ hu=>exact h2 u hu
    ·exact left
  ·rename_i h e hdf
   split
   ·rename_i e' hf
    split
    ·rename_i hs
     have hm:=hd.b h e' (yY hf)
     refine holds fun ρ' hS=>zfr hdf ?_
     rw[E.same_eq hs,hS.bv h (.inr (List.mem_map.2 ⟨_,yY hf,rfl⟩)),hm.1]
     exact(E.fine_same hS e' hm.2).2.1.symm
    ·exact left
   ·rename_i hf
    split
    ·rename_i hb
     simp only[Bool.and_eq_true]at hb
     have hge:vP<=h:=Nat.le_of_ble_eq_true hb.1
     have hnm:=mw hf
     have hs0:Same ρ (ρ.setB h (e.b ρ)) (D.map (·.1)) (B.map (·.1)):=⟨fun _ _=>rfl,fun n hn=>by
      show(if n=h then _ else _)=_
      rw[if_neg]
      rintro rfl
      rcases hn with hn|hn
      ·omega
      ·exact hnm hn,rfl,rfl,rfl,rfl,rfl,rfl,rfl,rfl,rfl⟩
     have hnew:DefOk (ρ.setB h (e.b ρ)) D ((h,e)::B):=by
      refine⟨fun k x hk=>?_,fun k x hk=>?_⟩
      ·obtain⟨k1,k2⟩:=hd.n k x hk
       refine⟨?_,E.fine_mono (fun n hn=>hn) (fun n hn=> .tail _ hn) x k2⟩
       rw[(E.fine_same hs0 x k2).1,hs0.iv k (.inr (List.mem_map.2 ⟨_,hk,rfl⟩)),k1]
      ·cases hk with
       |head=>exact⟨by rw[(E.fine_same hs0 e hb.2).2.1];simp[Env.setB],E.fine_mono (fun n hn=>hn) (fun n hn=> .tail _ hn) e hb.2⟩
       |tail _ hk=>
        obtain⟨k1,k2⟩:=hd.b k x hk
        refine⟨?_,E.fine_mono (fun n hn=>hn) (fun n hn=> .tail _ hn) x k2⟩
        rw[(E.fine_same hs0 x k2).2.1,hs0.bv k (.inr (List.mem_map.2 ⟨_,hk,rfl⟩)),k1]
     obtain⟨ρ',h1,h2⟩:=ih D ((h,e)::B) (ρ.setB h (e.b ρ)) hnew
     have hS:Same ρ ρ' (D.map (·.1)) (B.map (·.1)):=⟨fun n hn=>(h1.iv n hn).trans (hs0.iv n hn),fun n hn=>(h1.bv n (hn.imp_right (.tail _))).trans (hs0.bv n hn),h1.fn.trans hs0.fn,h1.fb.trans hs0.fb,h1.et.trans hs0.et,h1.ov.trans hs0.ov,h1.fl.trans hs0.fl,h1.mv.trans hs0.mv,h1.es.trans hs0.es,h1.mn.trans hs0.mn,h1.ol.trans hs0.ol⟩
     refine⟨ρ',hS,fun u hu=>?_⟩
     cases hu with
     |head=>
      refine .inl (zfr hdf ?_)
      have e1:=h1.bv h (.inr (.head _))
      have e2:(ρ.setB h (e.b ρ)).bv h=e.b ρ:=by simp[Env.setB]
      rw[e1,e2]
      exact(E.fine_same hS e hb.2).2.1.symm
     |tail _ hu=>exact h2 u hu
    ·exact left
  ·exact left
theorem Kj {P:Program} {et:TypeId} {cfg:Cfg} {ρ:Env} (he:ρ.et=et) (hs:HOK P ρ cfg.sum) {d f:Nat} {args:List SV} {H:List (Nat × HEnt)} {nx:Nat} {c:CR} {vs:List VC}
  (h:zH P et cfg (zi P et) d [] f args H nx=some (.leaf c,vs)) (hv:jx ρ vs) (b:Bd) (w:World) (hH:HRel ρ b (· <w.heap.size) w H (· <nx)) (ha:SV.okL ρ (· <nx) args) (hm:Mem ρ (· <w.heap.size) w):
  Calls P f (SV.denL ρ b args).toArray w fun e w'=>(∃b',e= .returned (c.v.den ρ b')/\zM b b' (· <nx)/\HRel ρ b' (· <w.heap.size) w' c.heap (· <c.next)/\c.v.ok ρ (· <c.next))/\Below w.heap.size w w':=by
 refine(QM he hs (fun h hh=>yX he h hh) d [] f args H nx _ _ h (zq ρ) hv b (· <w.heap.size) w w hH hm (Kept.refl _ _) (fun k hk=>hk) ha).mono ?_
 rintro e w' ⟨b',h1,h2,h3,h4,h5,h6,h7⟩
 exact⟨⟨b',h1,h2,h3,h4⟩,h5.below⟩
theorem GB {P:Program} {et:TypeId} {cfg:Cfg} {ρ:Env} (he:ρ.et=et) (hs:HOK P ρ cfg.sum) {d f:Nat} {args:List SV} {H:List (Nat × HEnt)} {nx:Nat} {c:CR} {vs:List VC}
  (h:zH P et cfg (zi P et) d [] f args H nx=some (.leaf c,vs)) (hv:jx ρ vs) {e:E} (hc:c.v= .bool e) (hb:e.b ρ=true) (b:Bd) (w:World) (hH:HRel ρ b (· <w.heap.size) w H (· <nx)) (ha:SV.okL ρ (· <nx) args) (hm:Mem ρ (· <w.heap.size) w):
  Calls P f (SV.denL ρ b args).toArray w fun e w'=>e= .returned (.bool true)/\Below w.heap.size w w':=by
 refine(Kj he hs h hv b w hH ha hm).mono ?_
 rintro x w' ⟨⟨b',h1,_⟩,h2⟩
 refine⟨?_,h2⟩
 rw[h1,hc]
 simp only[SV.den,hb]
def VC.same (v u:VC):Bool:=ms v.pc u.pc&&v.e.same u.e
theorem VC.same_eq {v u:VC} (h:v.same u=true):v=u:=by
 unfold VC.same at h
 rw[Bool.and_eq_true]at h
 have h1:=mt h.1
 have h2:=E.same_eq h.2
 cases v;cases u;simp_all
def VC.triv (v:VC):Bool:=match v.e with
 | .bc true=>true
 |_=>false
theorem VC.triv_ok {v:VC} (h:v.triv=true) (ρ:Env):v.holds ρ:=by
 unfold VC.triv at h
 split at h
 ·rename_i he
  intro _
  rw[he]
  rfl
 ·cases h
def chk (r:Option (T CR × List VC)) (e:E) (l:List VC):Bool:=match r with
 |some (.leaf c,vs)=>(match c.v with
  | .bool x=>x.same e
  |_=>false)&&vs.all fun v=>v.triv||l.any fun u=>u.same v
 |_=>false
theorem zfs {r:Option (T CR × List VC)} {e:E} {l:List VC} (h:chk r e l=true):∃c vs,r=some (.leaf c,vs)/\c.v= .bool e/\∀ρ,jx ρ l->jx ρ vs:=by
 unfold chk at h
 split at h
 ·rename_i c vs
  rw[Bool.and_eq_true]at h
  refine⟨c,vs,rfl,?_,fun ρ hl v hv=>?_⟩
  ·have h1:=h.1
   split at h1
   ·rename_i x hx
    rw[hx,E.same_eq h1]
   ·cases h1
  ·have h2:=List.all_eq_true.1 h.2 v hv
   rw[Bool.or_eq_true]at h2
   rcases h2 with h2|h2
   ·exact VC.triv_ok h2 ρ
   rw[List.any_eq_true]at h2
   obtain⟨u,hu,hs⟩:=h2
   rw[<-VC.same_eq hs]
   exact hl u hu
 ·cases h
def VC.says (ρ:Env) (v:VC):Prop:=match zax v with
 | .n h e=>ρ.iv h=e.i ρ
 | .b h e=>ρ.bv h=e.b ρ
 | .no=>True
theorem zay {ρ:Env} {v:VC} (h:v.holds ρ):v.says ρ:=by
 unfold VC.says
 split
 ·rename_i n e hd
  unfold zax at hd
  split at hd
  ·cases hd
   have:=VC.holds_nil h
   simp only[E.b,decide_eq_true_eq]at this
   exact this
  ·split at hd<;>cases hd
  ·cases hd
 ·rename_i n e hd
  unfold zax at hd
  split at hd
  ·cases hd
  ·split at hd
   ·rename_i hs
    cases hd
    have:=VC.holds_nil h
    rw[<-E.same_eq hs]at this
    simp only[E.b]at this
    show ρ.bv _=_
    cases h1:ρ.bv n<;>simp_all
   ·cases hd
  ·cases hd
 ·trivial
def qA (ρ:Env):List VC->Prop
 |[]=>True
 |v::l=>v.says ρ/\qA ρ l
theorem QQ {ρ:Env} {l:List VC} (h:jx ρ l):qA ρ l:=by
 induction l with
 |nil=>trivial
 |cons v l ih=>exact⟨zay (h v (.head _)),ih (fun u hu=>h u (.tail _ hu))⟩
def YD:List (Nat × HEnt)->List (Nat × HEnt)->Bool
 |[],[]=>true
 |(n,x)::l,(m,y)::k=>Nat.beq n m&&ms x.g y.g&&SV.sameL x.blk.cells y.blk.cells&&Nat.beq x.blk.elem y.blk.elem&&decide (x.blk.kind=y.blk.kind)&&YD l k
 |_,_=>false
theorem GC:∀ {l k:List (Nat × HEnt)},YD l k=true->l=k:=by
 intro l
 induction l with
 |nil=>intro k h;cases k<;>simp[YD]at h;rfl
 |cons a l ih=>
  intro k h
  obtain⟨n,g,cs,t,kd⟩:=a
  cases k with
  |nil=>simp[YD]at h
  |cons c k=>
   obtain⟨m,g',cs',t',kd'⟩:=c
   simp only[YD,Bool.and_eq_true,decide_eq_true_eq]at h
   obtain⟨⟨⟨⟨⟨h1,h2⟩,h3⟩,h4⟩,h5⟩,h6⟩:=h
   rw[Nat.eq_of_beq_eq_true h1,mt h2,SV.sameL_eq _ _ h3,Nat.eq_of_beq_eq_true h4,h5,ih h6]
end Go.Proofs.YtoakpnoajmngmaaGreatDoor.Sx
namespace Go.Proofs.YtoakpnoajmngmaaGreatDoor.Sx
open Go.RowKit (Below)
structure Sub where
 i:List (Nat × E)
 b:List (Nat × E)
def E.sub (σ:Sub):E->E
 | .v n=>(zB σ.i n).getD (.v n)
 | .bv n=>(zB σ.b n).getD (.bv n)
 | .un o a=> .un o (a.sub σ)
 | .bin o a b=> .bin o (a.sub σ) (b.sub σ)
 | .ite d a b=> .ite (d.sub σ) (a.sub σ) (b.sub σ)
 | .ap k a=> .ap k (a.sub σ)
 | .cons a b=> .cons (a.sub σ) (b.sub σ)
 |e=>e
structure Reads (σ:Sub) (ρ ρ':Env):Prop where
 iv:∀n,n<vP->ρ'.iv n=match zB σ.i n with|some e=>e.i ρ|none=>ρ.iv n
 bv:∀n,n<vP->ρ'.bv n=match zB σ.b n with|some e=>e.b ρ|none=>ρ.bv n
 fn:ρ'.fn=ρ.fn
 fb:ρ'.fb=ρ.fb
 et:ρ'.et=ρ.et
 ov:ρ'.ov=ρ.ov
 fl:ρ'.fl=ρ.fl
 mv:ρ'.mv=ρ.mv
 es:ρ'.es=ρ.es
 mn:ρ'.mn=ρ.mn
 ol:ρ'.ol=ρ.ol
def Env.sub (σ:Sub) (ρ:Env):Env:= {ρ with iv:=fun n=>match zB σ.i n with|some e=>e.i ρ|none=>ρ.iv n,bv:=fun n=>match zB σ.b n with|some e=>e.b ρ|none=>ρ.bv n}
theorem Reads.of {σ:Sub} {ρ ρ':Env} (h:Same (ρ.sub σ) ρ' [] []):Reads σ ρ ρ':=
 ⟨fun n hn=>h.iv n (.inl hn),fun n hn=>h.bv n (.inl hn),h.fn,h.fb,h.et,h.ov,h.fl,h.mv,h.es,h.mn,h.ol⟩
def E.sm:E->Nat->Bool
 | .v n,0=>Nat.blt n vP
 | .c _,0=>true
 | .un (.wrap _) a,0=>a.sm 0
 | .bin .add a b,0| .bin .sub a b,0| .bin .mul a b,0| .bin .quo a b,0| .bin .rem a b,0| .bin .div a b,0| .bin .mod a b,0| .bin .min a b,0| .bin .max a b,0=>a.sm 0&&b.sm 0
 | .ite d a b,0=>d.sm 1&&a.sm 0&&b.sm 0
 | .ap _ a,0=>a.sm 2
 | .bv n,1=>Nat.blt n vP
 | .bc _,1=>true
 | .un .not a,1=>a.sm 1
 | .bin .lt a b,1| .bin .le a b,1| .bin .eq a b,1=>a.sm 0&&b.sm 0
 | .bin .and a b,1| .bin .or a b,1=>a.sm 1&&b.sm 1
 | .ite d a b,1=>d.sm 1&&a.sm 1&&b.sm 1
 | .ap _ a,1=>a.sm 2
 | .nil,2=>true
 | .cons a b,2=>a.sm 0&&b.sm 2
 | .ap _ a,2=>a.sm 2
 | .bin .app a b,2=>a.sm 2&&b.sm 2
 | .ite d a b,2=>d.sm 1&&a.sm 2&&b.sm 2
 |_,_=>false
theorem E.sub_ok {σ:Sub} {ρ ρ':Env} (h:Reads σ ρ ρ'):(e:E)->(e.sm 0=true->e.i ρ'=(e.sub σ).i ρ)/\(e.sm 1=true->e.b ρ'=(e.sub σ).b ρ)/\(e.sm 2=true->e.l ρ'=(e.sub σ).l ρ):=by
 intro e
 induction e with
 |v n=>
  refine⟨fun hs=>?_,fun hs=>(by simp[E.sm]at hs),fun hs=>(by simp[E.sm]at hs)⟩
  simp only[E.i,E.sub,h.iv n (kv (by simpa [E.sm]using hs))]
  cases zB σ.i n<;>rfl
 |bv n=>
  refine⟨fun hs=>(by simp[E.sm]at hs),fun hs=>?_,fun hs=>(by simp[E.sm]at hs)⟩
  simp only[E.b,E.sub,h.bv n (kv (by simpa [E.sm]using hs))]
  cases zB σ.b n<;>rfl
 |c z=>exact⟨fun _=>rfl,fun _=>rfl,fun _=>rfl⟩
 |bc b=>exact⟨fun _=>rfl,fun _=>rfl,fun _=>rfl⟩
 |nil=>exact⟨fun _=>rfl,fun _=>rfl,fun _=>rfl⟩
 |un o a ih=>
  obtain⟨h1,h2,h3⟩:=ih
  cases o<;>simp only[E.sm]<;>refine⟨fun hs=>?_,fun hs=>?_,fun hs=>?_⟩<;>first|(simp[E.i,E.b,E.sub,h1 hs];done)|(simp[E.i,E.b,E.sub,h2 hs];done)|(simp at hs;done)
 |bin o a b iha ihb=>
  obtain⟨a1,a2,a3⟩:=iha
  obtain⟨b1,b2,b3⟩:=ihb
  cases o<;>simp only[E.sm,Bool.and_eq_true]<;>refine⟨fun hs=>?_,fun hs=>?_,fun hs=>?_⟩<;>first|(simp[E.i,E.b,E.l,E.sub,a1 hs.1,b1 hs.2];done)|(simp[E.i,E.b,E.l,E.sub,a2 hs.1,b2 hs.2];done)|(simp[E.i,E.b,E.l,E.sub,a3 hs.1,b3 hs.2];done)|(simp at hs;done)
 |ite d a b ihd iha ihb=>
  obtain⟨d1,d2,d3⟩:=ihd
  obtain⟨a1,a2,a3⟩:=iha
  obtain⟨b1,b2,b3⟩:=ihb
  simp only[E.sm,Bool.and_eq_true]
  exact⟨fun hs=>by simp only[E.i,E.sub,d2 hs.1.1,a1 hs.1.2,b1 hs.2],fun hs=>by simp only[E.b,E.sub,d2 hs.1.1,a2 hs.1.2,b2 hs.2],fun hs=>by simp only[E.l,E.sub,d2 hs.1.1,a3 hs.1.2,b3 hs.2]⟩
 |ap k a ih=>
  obtain⟨h1,h2,h3⟩:=ih
  simp only[E.sm]
  exact⟨fun hs=>by simp only[E.i,E.sub,h3 hs,h.fn],fun hs=>by simp only[E.b,E.sub,h3 hs,h.fb],fun hs=>by simp only[E.l,E.sub,h3 hs,h.fl]⟩
 |cons a b iha ihb=>
  obtain⟨a1,a2,a3⟩:=iha
  obtain⟨b1,b2,b3⟩:=ihb
  simp only[E.sm,Bool.and_eq_true]
  exact⟨fun hs=>absurd hs (by simp),fun hs=>absurd hs (by simp),fun hs=>by simp only[E.l,E.sub,a1 hs.1,b3 hs.2]⟩
theorem Reads.elem {σ:Sub} {ρ ρ':Env} (h:Reads σ ρ ρ') (sh:List CK) (k i:Nat):CK.elem ρ' sh k i↔CK.elem ρ sh k i:=by
 have e:∀(c:CK) (j:Nat),c.val ρ' k j i=c.val ρ k j i/\(c.fits ρ' k j i↔c.fits ρ k j i):=fun c j=>by
  cases c<;>simp[CK.val,CK.fits,Env.slc,h.fn,h.fb,h.es]
 unfold CK.elem
 simp only[h.mv,(e _ _).1,(e _ _).2]
def R.pat (σ:Sub) (y x:R):Bool:=y.e.sm 0&&(y.e.sub σ).same x.e
def R.fit (ρ:Env) (r:R):Prop:=r.lo<=r.e.i ρ/\r.e.i ρ<=r.hi
mutual
def SV.rs:SV->List R
 | .int _ r=>[r]
 | .slv _ _ l=>[l]
 | .osl _ _ l=>[l]
 | .optr _ _ l _=>[l]
 | .err r=>[r]
 | .ifc _ v=>v.rs
 | .fn _ l=>SV.rsL l
 | .agg l=>SV.rsL l
 | .tup l=>SV.rsL l
 |_=>[]
def SV.rsL:List SV->List R
 |[]=>[]
 |a::l=>a.rs++SV.rsL l
end
theorem R.pat_ok {σ:Sub} {ρ ρ':Env} (h:Reads σ ρ ρ') {y x:R} (hp:y.pat σ x=true):y.e.i ρ'=x.e.i ρ:=by
 simp only[R.pat,Bool.and_eq_true]at hp
 rw[(E.sub_ok h y.e).1 hp.1,E.same_eq hp.2]
mutual
def SV.pat (σ:Sub):SV->SV->Bool
 | .int k y,.int j x=>decide (k=j)&&y.pat σ x
 | .bool y,.bool x=>y.sm 1&&(y.sub σ).same x
 | .nilp,.nilp=>true
 | .ptr n o,.ptr m p=>Nat.beq n m&&Nat.beq o p
 | .nils,.nils=>true
 | .sl n o l c,.sl m p k d=>Nat.beq n m&&Nat.beq o p&&Nat.beq l k&&decide (c=d)
 | .slv n o l,.slv m p k=>Nat.beq n m&&Nat.beq o p&&l.pat σ k&&decide (0<=l.lo)
 | .emp n,.emp m=>Nat.beq n m
 | .osl n s l,.osl m t k=>Nat.beq n m&&decide (s=t)&&l.pat σ k&&decide (0<=l.lo)
 | .esl n i,.esl m j=>Nat.beq n m&&i.sm 0&&(i.sub σ).same j
 | .optr n s l o,.optr m t k p=>Nat.beq n m&&decide (s=t)&&l.pat σ k&&Nat.beq o p
 | .nili,.nili=>true
 | .ifc t v,.ifc u x=>decide (t=u)&&v.pat σ x
 | .err y,.err x=>y.pat σ x
 | .nilf,.nilf=>true
 | .fn f l,.fn g m=>decide (f=g)&&SV.patL σ l m
 | .agg l,.agg m=>SV.patL σ l m
 | .tup l,.tup m=>SV.patL σ l m
 |_,_=>false
def SV.patL (σ:Sub):List SV->List SV->Bool
 |[],[]=>true
 |a::l,c::m=>a.pat σ c&&SV.patL σ l m
 |_,_=>false
end
mutual
theorem SV.pat_ok {σ:Sub} {ρ ρ':Env} (h:Reads σ ρ ρ') (b:Bd) {N M:Nat->Prop}:(y x:SV)->y.pat σ x=true->(∀n∈y.names,M n)->(∀r∈y.rs,r.fit ρ')->y.den ρ' b=x.den ρ b/\(x.ok ρ N->y.ok ρ' M)
 | .int k y,x,hp,_,hf=>by
   cases x<;>simp only[SV.pat,Bool.and_eq_true,decide_eq_true_eq,Bool.false_eq_true]at hp
   obtain⟨rfl,hp⟩:=hp
   have h1:=R.pat_ok h hp
   exact⟨by simp only[SV.den,h1],fun _=>hf y (by simp[SV.rs])⟩
 | .bool y,x,hp,_,_=>by
   cases x<;>simp only[SV.pat,Bool.and_eq_true,Bool.false_eq_true]at hp
   exact⟨by simp only[SV.den,(E.sub_ok h y).2.1 hp.1,E.same_eq hp.2],fun _=>trivial⟩
 | .nilp,x,hp,_,_=>by cases x<;>simp only[SV.pat,Bool.false_eq_true]at hp;exact⟨rfl,fun _=>trivial⟩
 | .ptr n o,x,hp,hm,hf=>by
   cases x<;>simp only[SV.pat,Bool.and_eq_true,Bool.false_eq_true]at hp
   have e1:=Nat.eq_of_beq_eq_true hp.1
   have e2:=Nat.eq_of_beq_eq_true hp.2
   subst e1 e2
   exact⟨rfl,fun _=>hm _ (by simp[SV.names])⟩
 | .nils,x,hp,_,_=>by cases x<;>simp only[SV.pat,Bool.false_eq_true]at hp;exact⟨rfl,fun _=>trivial⟩
 | .sl n o l c,x,hp,hm,hf=>by
   cases x<;>simp only[SV.pat,Bool.and_eq_true,decide_eq_true_eq,Bool.false_eq_true]at hp
   obtain⟨⟨⟨h1,h2⟩,h3⟩,h4⟩:=hp
   have e1:=Nat.eq_of_beq_eq_true h1
   have e2:=Nat.eq_of_beq_eq_true h2
   have e3:=Nat.eq_of_beq_eq_true h3
   subst e1 e2 e3 h4
   exact⟨rfl,fun _=>hm _ (by simp[SV.names])⟩
 | .slv n o l,x,hp,hm,hf=>by
   cases x<;>simp only[SV.pat,Bool.and_eq_true,decide_eq_true_eq,Bool.false_eq_true]at hp
   obtain⟨⟨⟨h1,h2⟩,h3⟩,h4⟩:=hp
   have k1:=R.pat_ok h h3
   have e1:=Nat.eq_of_beq_eq_true h1
   have e2:=Nat.eq_of_beq_eq_true h2
   subst e1 e2
   exact⟨by simp only[SV.den,k1],fun hx=>⟨hm _ (by simp[SV.names]),hf l (by simp[SV.rs]),h4⟩⟩
 | .emp n,x,hp,_,_=>by
   cases x<;>simp only[SV.pat,Bool.false_eq_true]at hp
   rw[Nat.eq_of_beq_eq_true hp]
   exact⟨by simp only[SV.den,h.ov],fun _=>trivial⟩
 | .osl n s l,x,hp,_,hf=>by
   cases x<;>simp only[SV.pat,Bool.and_eq_true,decide_eq_true_eq,Bool.false_eq_true]at hp
   obtain⟨⟨⟨h1,h2⟩,h3⟩,h4⟩:=hp
   have k1:=R.pat_ok h h3
   rw[Nat.eq_of_beq_eq_true h1,h2]
   exact⟨by simp only[SV.den,k1,h.ov],fun hx=>⟨hf l (by simp[SV.rs]),h4,fun i hi=>(h.elem _ _ _).2 (hx.2.2.1 i (by rw[<-k1];exact hi)),by rw[k1,h.ol];exact hx.2.2.2⟩⟩
 | .esl n i,x,hp,_,_=>by
   cases x<;>simp only[SV.pat,Bool.and_eq_true,Bool.false_eq_true]at hp
   obtain⟨⟨h1,h2⟩,h3⟩:=hp
   have e:=(E.sub_ok h i).1 h2
   rw[E.same_eq h3]at e
   rw[Nat.eq_of_beq_eq_true h1]
   refine⟨by simp only[SV.den,Env.slc,e,h.es],fun hx=>?_⟩
   simp only[SV.ok,e,h.es,h.fn]
   exact hx
 | .optr n s l o,x,hp,_,hf=>by
   cases x<;>simp only[SV.pat,Bool.and_eq_true,decide_eq_true_eq,Bool.false_eq_true]at hp
   obtain⟨⟨⟨h1,h2⟩,h3⟩,h4⟩:=hp
   have k1:=R.pat_ok h h3
   rw[Nat.eq_of_beq_eq_true h1,h2,Nat.eq_of_beq_eq_true h4]
   exact⟨by simp only[SV.den,k1,h.ov],fun hx=>⟨hf l (by simp[SV.rs]),by rw[k1];exact hx.2.1,by rw[k1];exact(h.elem _ _ _).2 hx.2.2.1,by rw[h.ov];exact hx.2.2.2⟩⟩
 | .nili,x,hp,_,_=>by cases x<;>simp only[SV.pat,Bool.false_eq_true]at hp;exact⟨rfl,fun _=>trivial⟩
 | .ifc t v,x,hp,hm,hf=>by
   cases x<;>simp only[SV.pat,Bool.and_eq_true,decide_eq_true_eq,Bool.false_eq_true]at hp
   obtain⟨rfl,hp⟩:=hp
   obtain⟨h1,h2⟩:=SV.pat_ok h b v _ hp (fun n hn=>hm n (by simpa [SV.names]using hn)) (fun r hr=>hf r (by simpa [SV.rs]using hr))
   exact⟨by simp only[SV.den,h1],h2⟩
 | .err y,x,hp,_,hf=>by
   cases x<;>simp only[SV.pat,Bool.false_eq_true]at hp
   have h1:=R.pat_ok h hp
   exact⟨by simp only[SV.den,h1,h.et],fun _=>hf y (by simp[SV.rs])⟩
 | .nilf,x,hp,_,_=>by cases x<;>simp only[SV.pat,Bool.false_eq_true]at hp;exact⟨rfl,fun _=>trivial⟩
 | .fn f l,x,hp,hm,hf=>by
   cases x<;>simp only[SV.pat,Bool.and_eq_true,decide_eq_true_eq,Bool.false_eq_true]at hp
   obtain⟨rfl,hp⟩:=hp
   obtain⟨h1,h2⟩:=SV.patL_ok h b l _ hp (fun n hn=>hm n (by simpa [SV.names]using hn)) (fun r hr=>hf r (by simpa [SV.rs]using hr))
   exact⟨by simp only[SV.den,h1],h2⟩
 | .agg l,x,hp,hm,hf=>by
   cases x<;>simp only[SV.pat,Bool.false_eq_true]at hp
   obtain⟨h1,h2⟩:=SV.patL_ok h b l _ hp (fun n hn=>hm n (by simpa [SV.names]using hn)) (fun r hr=>hf r (by simpa [SV.rs]using hr))
   exact⟨by simp only[SV.den,h1],h2⟩
 | .tup l,x,hp,hm,hf=>by
   cases x<;>simp only[SV.pat,Bool.false_eq_true]at hp
   obtain⟨h1,h2⟩:=SV.patL_ok h b l _ hp (fun n hn=>hm n (by simpa [SV.names]using hn)) (fun r hr=>hf r (by simpa [SV.rs]using hr))
   exact⟨by simp only[SV.den,h1],h2⟩
 | .con v,x,hp,_,_=>by cases x<;>simp only[SV.pat,Bool.false_eq_true]at hp
theorem SV.patL_ok {σ:Sub} {ρ ρ':Env} (h:Reads σ ρ ρ') (b:Bd) {N M:Nat->Prop}:(y x:List SV)->SV.patL σ y x=true->(∀n∈SV.namesL y,M n)->(∀r∈SV.rsL y,r.fit ρ')->SV.denL ρ' b y=SV.denL ρ b x/\(SV.okL ρ N x->SV.okL ρ' M y)
 |[],x,hp,_,_=>by cases x<;>simp only[SV.patL,Bool.false_eq_true]at hp;exact⟨rfl,fun _=>trivial⟩
 |a::l,x,hp,hm,hf=>by
  cases x with
  |nil=>simp only[SV.patL,Bool.false_eq_true]at hp
  |cons c m=>
   simp only[SV.patL,Bool.and_eq_true]at hp
   obtain⟨h1,h2⟩:=SV.pat_ok h b (N:=N) a c hp.1 (fun n hn=>hm n (by simp[SV.namesL,hn])) (fun r hr=>hf r (by simp[SV.rsL,hr]))
   obtain⟨k1,k2⟩:=SV.patL_ok h b (N:=N) l m hp.2 (fun n hn=>hm n (by simp[SV.namesL,hn])) (fun r hr=>hf r (by simp[SV.rsL,hr]))
   exact⟨by simp only[SV.denL,h1,k1],fun hx=>⟨h2 hx.1,k2 hx.2⟩⟩
end
def St.pat (σ:Sub) (y x:St):Bool:=
 Nat.beq y.nt x.nt
 &&y.tmps.all (fun p=>p.2.g.isEmpty&&(p.2.sv.names.all fun m=>Nat.blt m y.next)&&match zB x.tmps p.1 with|some e=>e.g.isEmpty&&p.2.sv.pat σ e.sv|none=>false)
 &&y.heap.all (fun p=>p.2.g.isEmpty&&Nat.blt p.1 y.next&&((SV.namesL p.2.blk.cells).all fun m=>Nat.blt m y.next)&&match zB x.heap p.1 with|some e=>e.g.isEmpty&&decide (p.2.blk.kind=e.blk.kind)&&decide (p.2.blk.elem=e.blk.elem)&&SV.patL σ p.2.blk.cells e.blk.cells|none=>false)
def St.rs (y:St):List R:=(y.tmps.flatMap fun p=>p.2.sv.rs)++y.heap.flatMap fun p=>SV.rsL p.2.blk.cells
theorem St.pat_ok {σ:Sub} {ρ ρ':Env} (h:Reads σ ρ ρ') {y x:St} (hp:y.pat σ x=true) (hfit:∀r∈y.rs,r.fit ρ') {b:Bd} {base:Nat->Prop} {w0 w:World} {tm:Array Value} (hr:Rel ρ b base w0 w x tm):Rel ρ' b base w0 w y tm:=by
 simp only[St.pat,Bool.and_eq_true,List.all_eq_true]at hp
 obtain⟨⟨h0,h1⟩,h2⟩:=hp
 have hH:∀n e,zB y.heap n=some e->e.g=[]/\n<y.next/\(∀m∈SV.namesL e.blk.cells,m<y.next)/\∃u,zB x.heap n=some u/\u.g=[]/\e.blk.kind=u.blk.kind/\e.blk.elem=u.blk.elem/\SV.patL σ e.blk.cells u.blk.cells=true:=by
  intro n e hf
  obtain⟨⟨⟨g1,g2⟩,g3⟩,g4⟩:=h2 _ (zG hf)
  refine⟨by simpa using g1,kv g2,fun m hm=>kv (g3 m hm),?_⟩
  split at g4
  ·rename_i u hu
   simp only[Bool.and_eq_true,decide_eq_true_eq]at g4
   exact⟨u,hu,by simpa using g4.1.1.1,g4.1.1.2,g4.1.2,g4.2⟩
  ·cases g4
 refine⟨⟨fun n e hf _=>?_,fun n m e k hf hk hg hgk ho hok heq=>?_⟩,fun i e hf=>?_,hr.below,hr.base,hr.nt.trans (Nat.eq_of_beq_eq_true h0).symm,hr.kept.of h.mv h.ov h.es h.mn⟩
 ·obtain⟨g1,g2,g3,u,u1,u2,u3,u4,u5⟩:=hH n e hf
  obtain⟨m1,m2,m3⟩:=hr.heap.mem n u u1 (by rw[u2];exact zq ρ)
  obtain⟨k1,k2⟩:=SV.patL_ok h b (N:=(· <x.next)) (M:=(· <y.next)) _ _ u5 g3 (fun r hr=>hfit r (List.mem_append.2 (.inr (List.mem_flatMap.2 ⟨(n,e),zG hf,hr⟩))))
  refine⟨g2,?_,k2 m3⟩
  have hl:e.blk.cells.length=u.blk.cells.length:=by have:=congrArg List.length k1;simpa [zk]using this
  have hgt:∀(i:Nat) (v:SV),e.blk.cells[i]? =some v->∃z:SV,u.blk.cells[i]? =some z/\v.den ρ' b=z.den ρ b:=by
   intro i v hi
   have e1:(SV.denL ρ' b e.blk.cells)[i]? =some (v.den ρ' b):=by rw[qm,hi];rfl
   rw[k1,qm]at e1
   cases hz:u.blk.cells[i]? with
   |none=>rw[hz]at e1;cases e1
   |some z=>rw[hz]at e1;exact⟨z,rfl,(Option.some.inj e1).symm⟩
  unfold Blk.ok at m2 ⊢
  rw[u3,u4,k1]
  split at m2
  ·exact m2
  ·obtain⟨a1,a2,arr,a3,a4,a5,a6⟩:=m2
   exact⟨a1,a2,arr,a3,a4,by rw[hl];exact a5,fun i v hi=>by obtain⟨z,z1,z2⟩:=hgt i v hi;rw[z2];exact a6 i z z1⟩
  ·exact⟨m2.1,fun i v hi=>by obtain⟨z,z1,z2⟩:=hgt i v hi;rw[z2];exact m2.2 i z z1⟩
  ·exact⟨m2.1,m2.2.1,List.eq_nil_of_length_eq_zero (by rw[hl,m2.2.2.1];rfl),by rw[h.fl];exact m2.2.2.2⟩
 ·obtain⟨g1,g2,g3,u,u1,u2,u3,u4,u5⟩:=hH n e hf
  obtain⟨f1,f2,f3,t,t1,t2,t3,t4,t5⟩:=hH m k hk
  exact hr.heap.inj n m u t u1 t1 (by rw[u2];exact zq ρ) (by rw[t2];exact zq ρ) (by simpa [Blk.own,u3]using ho) (by simpa [Blk.own,t3]using hok) heq
 ·obtain⟨⟨g1,g2⟩,g3⟩:=h1 _ (zG hf)
  split at g3
  ·rename_i u hu
   simp only[Bool.and_eq_true]at g3
   have ug:u.g=[]:=by simpa using g3.1
   have eg:e.g=[]:=by simpa using g1
   obtain⟨t1,t2⟩:=(hr.tmps i u hu).1 (by rw[ug];exact zq ρ)
   obtain⟨k1,k2⟩:=SV.pat_ok h b (N:=(· <x.next)) (M:=(· <y.next)) _ _ g3.2 (fun n hn=>kv (by simpa using g2 n hn)) (fun r hr=>hfit r (List.mem_append.2 (.inl (List.mem_flatMap.2 ⟨(i,e),zG hf,hr⟩))))
   exact⟨fun _=>⟨by rw[k1];exact t1,k2 t2⟩,fun hn=>absurd (by rw[eg];exact zq ρ') hn⟩
  ·cases g3
end Go.Proofs.YtoakpnoajmngmaaGreatDoor.Sx
