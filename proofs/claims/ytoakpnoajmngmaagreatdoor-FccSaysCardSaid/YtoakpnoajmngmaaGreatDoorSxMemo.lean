import Derived.Test.YtoakpnoajmngmaaGreatDoorSxY
set_option linter.unusedVariables false
set_option linter.unusedSimpArgs false
namespace Go.Proofs.YtoakpnoajmngmaaGreatDoor.Sx
open Go.RowKit (Below)
structure LS where
 pc:List E
 x:XK
 S:St
 σ:Sub
def T.leaves {α:Type}:List E->T α->List (List E × α)
 |pc,.leaf x=>[(pc,x)]
 |pc,.node c t u=>T.leaves (c::pc) t++T.leaves (jz c::pc) u
theorem T.leaves_at {α:Type} {ρ:Env}:∀(t:T α) (pc:List E),qq ρ pc->∃q,(q,t.at ρ)∈t.leaves pc/\qq ρ q:=by
 intro t
 induction t with
 |leaf x=>intro pc h;exact⟨pc,.head _,h⟩
 |node c t u iht ihu=>
  intro pc h
  simp only[T.leaves,T.at]
  by_cases hc:c.b ρ=true
  ·obtain⟨q,h1,h2⟩:=iht (c::pc) (jR hc h)
   rw[if_pos hc]
   exact⟨q,List.mem_append_left _ h1,h2⟩
  ·have hc':(jz c).b ρ=true:=by rw[q7];simpa using hc
   obtain⟨q,h1,h2⟩:=ihu (jz c::pc) (jR hc' h)
   rw[if_neg hc]
   exact⟨q,List.mem_append_right _ h1,h2⟩
def LS.fits (s:LS) (l:List E × Lf):Bool:=sub s.pc l.1&&decide (s.x=l.2.x)&&s.S.pat s.σ l.2.st
def znn:List LS->List (List E × Lf)->Bool
 |[],[]=>true
 |s::l,x::m=>s.fits x&&znn l m
 |_,_=>false
theorem zdv:∀ {l:List LS} {m:List (List E × Lf)} {x:List E × Lf},znn l m=true->x∈m->∃s∈l,s.fits x=true:=by
 intro l
 induction l with
 |nil=>intro m x h hx;cases m with|nil=>cases hx|cons=>cases h
 |cons s l ih=>
  intro m x h hx
  cases m with
  |nil=>cases hx
  |cons y m=>
   simp only[znn,Bool.and_eq_true]at h
   cases hx with
   |head=>exact⟨s,.head _,h.1⟩
   |tail _ hx=>
    obtain⟨s',h1,h2⟩:=ih h.2 hx
    exact⟨s',.tail _ h1,h2⟩
def Code.flat:Code->List Code
 | .seq x y=>Code.flat x++Code.flat y
 | .skip=>[]
 |c=>[c]
def wpL (P:Program):List Code->(Exit->Act->World->Prop)->Act->World->Prop
 |[],Q,a,w=>Q .normal a w
 |c::l,Q,a,w=>c.wp P (Exit.then (wpL P l Q) Q) a w
theorem zag {K K':Act->World->Prop} {Q Q':Exit->Act->World->Prop} (hK:∀a w,K a w->K' a w) (hQ:∀e a w,Q e a w->Q' e a w) (e:Exit) (a:Act) (w:World) (h:Exit.then K Q e a w):Exit.then K' Q' e a w:=by
 cases e<;>simp only[Exit.then]at h ⊢ <;>first|exact hK _ _ h|exact hQ _ _ _ h
theorem jK {P:Program}:∀ {l:List Code} {Q Q':Exit->Act->World->Prop},(∀e a w,Q e a w->Q' e a w)->∀a w,wpL P l Q a w->wpL P l Q' a w:=by
 intro l
 induction l with
 |nil=>intro Q Q' h a w hq;exact h _ _ _ hq
 |cons c l ih=>intro Q Q' h a w hq;exact wp_mono hq (zag (ih h) h)
theorem zah {P:Program}:∀ {l m:List Code} {Q:Exit->Act->World->Prop} {a:Act} {w:World},wpL P (l++m) Q a w↔wpL P l (Exit.then (wpL P m Q) Q) a w:=by
 intro l
 induction l with
 |nil=>intro m Q a w;exact Iff.rfl
 |cons c l ih=>
  intro m Q a w
  simp only[List.cons_append,wpL]
  refine⟨fun h=>wp_mono h ?_,fun h=>wp_mono h ?_⟩<;>intro e a w h<;>cases e<;>simp only[Exit.then]at h ⊢ <;>first|exact ih.1 h|exact ih.2 h|exact h
theorem Yt {P:Program}:∀(c:Code) {Q:Exit->Act->World->Prop} {a:Act} {w:World},wpL P (Code.flat c) Q a w->c.wp P Q a w:=by
 intro c
 have one:∀(c:Code) {Q:Exit->Act->World->Prop} {a:Act} {w:World},wpL P [c] Q a w->c.wp P Q a w:=fun c Q a w h=>wp_mono h (by intro e a w h;cases e<;>exact h)
 induction c with
 |seq x y ihx ihy=>
  intro Q a w h
  simp only[Code.flat]at h
  rw[zah]at h
  refine wp_seq (ihx (jK ?_ _ _ h))
  intro e a w h
  cases e<;>simp only[Exit.then]at h ⊢ <;>first|exact ihy h|exact h
 |skip=>intro Q a w h;exact wp_skip h
 |_=>intro Q a w h;exact one _ h
def qy (P:Program) (f:FuncId):List Code:=match P.funcs[f]? with
 |some fn=>match fn.body with
  |some c=>Code.flat c
  |none=>[]
 |none=>[]
def zai (P:Program) (et:TypeId) (h:zl) (drw:Array Oper->List E->St->Option (T St × List VC)) (c:Fc):List Code->List E->St->Option (T Lf × List VC)
 |[],_,S=>some (.leaf ⟨.normal,S⟩,[])
 |x::y,pc,S=>
  match mU P et h drw c x pc S with
  |some (t,v)=>match T.bind (fun pc l=>match l.x with
    | .normal=>zai P et h drw c y pc l.st
    |_=>some (.leaf l,[])) pc t with
   |some (t',v')=>some (T.nrm et c.lit c.big S.next t' (v++v'))
   |none=>none
  |none=>none
theorem zdw {P:Program} {et:TypeId} {h:zl} {ρ:Env} (he:ρ.et=et) (hh:HOK P ρ h) {drw:Array Oper->List E->St->Option (T St × List VC)} (hd:DOK P ρ drw) {c:Fc}:∀(x:List Code) (pc:List E) (S:St) (t:T Lf) (vs:List VC),zai P et h drw c x pc S=some (t,vs)->qq ρ pc->jx ρ vs->
  ∀b base w0 w a,Rel ρ b base w0 w S a.tmps->wpL P x (m6 ρ base w0 b S.next (t.at ρ) a.defers) a w:=by
 intro x
 induction x with
 |nil=>
  intro pc S t vs hs hpc hv b base w0 w a hr
  cases hs
  exact⟨rfl,rfl,b,zM.refl b _,hr,Nat.le_refl _⟩
 |cons x y ihy=>
  intro pc S t vs hs hpc hv b base w0 w a hr
  simp only[zai]at hs
  split at hs
  ·rename_i t1 v1 h1
   split at hs
   ·rename_i t2 v2 h2
    obtain⟨rfl,rfl⟩:=yU hs
    have hv0:=hv
    have hv:=(T.nrm_ok he hv).1
    rw[qz]at hv
    obtain⟨pc',r',vs',a1,a2,a3,a4⟩:=T.bind_ok h2 hpc hv.2
    refine wp_mono (zas he hh hd x _ _ _ _ h1 hpc hv.1 b base w0 w a hr) ?_
    rintro e a' w' ⟨g1,g2,b',g3,g4,g5⟩
    generalize (t1.at ρ)=l at*
    obtain⟨xk,st⟩:=l
    cases xk with
    |normal=>
     simp only[XK.ex]at g1
     subst g1
     simp only[Exit.then]
     refine jK ?_ _ _ (ihy _ _ _ _ a1 a2 a3 b' base w0 w' a' g4)
     rintro e a2' w2 ⟨k1,k2,b2,k3,k4,k5⟩
     refine m6.nrm he hv0 ?_
     rw[a4]
     exact⟨k1,k2.trans g2,b2,g3.trans k3 (fun n hn=>Nat.lt_of_lt_of_le hn g5),k4,Nat.le_trans g5 k5⟩
    |exit id=>
     cases a1
     subst g1
     refine m6.nrm he hv0 ?_
     rw[a4]
     exact⟨rfl,g2,b',g3,g4,g5⟩
    |ret=>
     cases a1
     subst g1
     refine m6.nrm he hv0 ?_
     rw[a4]
     exact⟨rfl,g2,b',g3,g4,g5⟩
   ·cases hs
  ·cases hs
def ran (r:Option (T Lf × List VC)) (l:List LS) (vcs:List VC):Bool:=match r with
 |some (t,vs)=>znn l (t.leaves [])&&vs.all fun v=>v.triv||vcs.any fun u=>v.same u
 |none=>false
def zp9 (ρ:Env) (base:Nat->Prop) (w0:World) (b:Bd) (nx:Nat) (l:List LS) (dfs:List Deferred):Exit->Act->World->Prop:=fun e a' w'=>
 a'.defers=dfs/\∃s∈l,e=s.x.ex/\qq ρ s.pc/\∃b',zM b b' (· <nx)/\∀ρ',Reads s.σ ρ ρ'->(∀r∈s.S.rs,r.fit ρ')->Rel ρ' b' base w0 w' s.S a'.tmps
theorem zms {P:Program} {et:TypeId} {h:zl} {ρ:Env} (he:ρ.et=et) (hh:HOK P ρ h) {drw:Array Oper->List E->St->Option (T St × List VC)} (hd:DOK P ρ drw) {c:Fc} {x:List Code} {S:St} {l:List LS} {vcs:List VC} (hr:ran (zai P et h drw c x [] S) l vcs=true) (hv:jx ρ vcs)
  {b:Bd} {base:Nat->Prop} {w0 w:World} {a:Act} (hrel:Rel ρ b base w0 w S a.tmps):wpL P x (zp9 ρ base w0 b S.next l a.defers) a w:=by
 unfold ran at hr
 split at hr
 ·rename_i t vs hex
  rw[Bool.and_eq_true,List.all_eq_true]at hr
  have hvs:jx ρ vs:=fun v hv'=>by
   have:=hr.2 v hv'
   rw[Bool.or_eq_true]at this
   rcases this with this|this
   ·exact VC.triv_ok this ρ
   rw[List.any_eq_true]at this
   obtain⟨u,hu,hs⟩:=this
   rw[VC.same_eq hs]
   exact hv u hu
  refine jK ?_ _ _ (zdw he hh hd x [] S t vs hex (zq ρ) hvs b base w0 w a hrel)
  rintro e a' w' ⟨h1,h2,b',h3,h4,h5⟩
  obtain⟨q,q1,q2⟩:=T.leaves_at (ρ:=ρ) t [] (zq ρ)
  obtain⟨s,s1,s2⟩:=zdv hr.1 q1
  simp only[LS.fits,Bool.and_eq_true,decide_eq_true_eq]at s2
  exact⟨h2,s,s1,by rw[h1,s2.1.2],sub_ok s2.1.1 q2,b',h3,fun ρ' hρ hf=>St.pat_ok hρ s2.2 hf h4⟩
 ·cases hr
def qG (P:Program) (f:FuncId) (i j:Nat):List Code:=((qy P f).drop i).take (j-i)
def k9 (P:Program) (f:FuncId) (k:Nat):List Code:=match(qy P f)[k]? with
 |some (.block _ (.loop x))=>Code.flat x
 |_=>[]
def Gt (P:Program) (f:FuncId) (k i:Nat):Bool:=match(qy P f)[k]? with
 |some (.block j (.loop _))=>Nat.beq i j
 |_=>false
theorem zaj {P:Program} {f:FuncId} {k i:Nat} (hl:Gt P f k i=true) {J:Nat->Act->World->Prop} {Q:Exit->Act->World->Prop} {n:Nat} {a:Act} {w:World} (h0:J n a w)
  (hr:∀n a w,J n a w->wpL P (k9 P f k) (fun e a' w'=>match e with| .normal=>∃m,m<n/\J m a' w'| .exit j=>if j=i then Q .normal a' w' else Q (.exit j) a' w'|e=>Q e a' w') a w):∀c,(qy P f)[k]? =some c->c.wp P Q a w:=by
 intro c hc
 unfold Gt at hl
 rw[hc]at hl
 split at hl
 ·rename_i j x he
  cases he
  have:=Nat.eq_of_beq_eq_true hl
  subst this
  have key:∀k' m a w,m<k'->J m a w->Code.rounds P x (Exit.inBlock i Q) k' a w:=by
   intro k'
   induction k' with
   |zero=>intro m a w h;omega
   |succ k' ih=>
    intro m a w hm hJ
    rw[rounds_succ]
    have key:=hr m a w hJ
    unfold k9 at key
    rw[hc]at key
    refine Yt x (jK ?_ _ _ key)
    intro e a' w' h
    cases e<;>simp only[Exit.then,Exit.inBlock]at h ⊢ <;>first|exact h|skip
    obtain⟨m',h1,h2⟩:=h
    exact ih m' a' w' (by omega) h2
  exact wp_block (wp_loop_rounds (n+1) (key (n+1) n a w (Nat.lt_succ_self n) h0))
 ·cases hl
theorem zak {P:Program} {f:FuncId} {args:Array Value} {w:World} {R:Ending->World->Prop} {fn:Func} (hf:P.funcs[f]? =some fn) (hb:fn.body.isSome=true) {k n:Nat} {c:Code} (hc:(qy P f)[k]? =some c) (hn:(qy P f).length<=n)
  (h:wpL P (qG P f 0 k) (Exit.then (fun a w=>c.wp P (Exit.then (fun a w=>wpL P (qG P f (k+1) n) (bodyPost P fn R) a w) (bodyPost P fn R)) a w) (bodyPost P fn R)) ⟨args++Array.replicate (fn.ntmps-args.size) undef,[]⟩ w):Calls P f args w R:=by
 cases hbb:fn.body with
 |none=>rw[hbb]at hb;cases hb
 |some body=>
  refine calls_of_wp hf hbb (Yt body ?_)
  have e:Code.flat body=qG P f 0 k++([c]++qG P f (k+1) n):=by
   have e0:qy P f=Code.flat body:=by unfold qy;rw[hf];simp only[hbb]
   unfold qG
   rw[<-e0]
   obtain⟨hk,hck⟩:=List.getElem?_eq_some_iff.1 hc
   have e1:((qy P f).drop (k+1)).take (n-(k+1))=(qy P f).drop (k+1):=List.take_of_length_le (by rw[List.length_drop];omega)
   rw[e1,List.drop_zero,Nat.sub_zero,<-hck,List.singleton_append,<-List.drop_eq_getElem_cons hk,List.take_append_drop]
  rw[e,zah]
  refine jK ?_ _ _ h
  intro e a w h
  cases e<;>simp only[Exit.then]at h ⊢ <;>first|exact h|skip
theorem Yu {P:Program} {f:FuncId} {args:Array Value} {w:World} {R:Ending->World->Prop} {fn:Func} (hf:P.funcs[f]? =some fn) (hb:fn.body.isSome=true) (h:wpL P (qy P f) (bodyPost P fn R) ⟨args++Array.replicate (fn.ntmps-args.size) undef,[]⟩ w):Calls P f args w R:=by
 cases hbb:fn.body with
 |none=>rw[hbb]at hb;cases hb
 |some body=>
  refine calls_of_wp hf hbb (Yt body ?_)
  unfold qy at h
  rw[hf]at h
  simp only[hbb]at h
  exact h
def start (P:Program) (f:FuncId) (args:List SV) (H:List (Nat × HEnt)) (nx:Nat):St:=match P.funcs[f]? with
 |some fn=>⟨zh0 args,H,nx,args.length+(fn.ntmps-args.length)⟩
 |none=>⟨[],[],0,0⟩
theorem Gu {P:Program} {f:FuncId} {fn:Func} (hf:P.funcs[f]? =some fn) {ρ:Env} {b:Bd} {base:Nat->Prop} {w0 w:World} {args:List SV} {H:List (Nat × HEnt)} {nx:Nat} (hH:HRel ρ b base w H (· <nx)) (hmem:Mem ρ base w0) (hbel:Kept base w0 w) (hbase:∀k,base k->k<w.heap.size) (hargs:SV.okL ρ (· <nx) args):
  Rel ρ b base w0 w (start P f args H nx) ((SV.denL ρ b args).toArray++Array.replicate (fn.ntmps-(SV.denL ρ b args).toArray.size) undef):=by
 unfold start
 rw[hf]
 refine⟨hH,fun i e hfe=>?_,hbel,hbase,by simp[zk],hmem⟩
 obtain⟨v,_,h2,rfl⟩:=Zy args 0 i e hfe
 simp only[Nat.sub_zero]at h2
 have hl:=(List.getElem?_eq_some_iff.1 h2).1
 refine⟨fun _=>⟨?_,ka hargs h2⟩,fun hn=>absurd (zq ρ) hn⟩
 rw[Array.getElem?_append_left (by simpa [zk]using hl)]
 simp[qm,h2]
def ko (P:Program) (f:FuncId) (S:St):Option (List SV):=match P.funcs[f]? with
 |some fn=>jL P S fn.results.toList
 |none=>none
theorem Gv {P:Program} {f:FuncId} {fn:Func} (hf:P.funcs[f]? =some fn) {S:St} {rs:List SV} (hr:ko P f S=some rs) {ρ:Env} {b:Bd} {base:Nat->Prop} {w0 w:World} {a:Act} {R:Ending->World->Prop} {e:Exit} (he:e= .normal\/e= .ret) (hd:a.defers=[]) (h:Rel ρ b base w0 w S a.tmps) (hR:(qJ rs).ok ρ (· <S.next)->R (.returned ((qJ rs).den ρ b)) w):
  bodyPost P fn R e a w:=by
 unfold ko at hr
 rw[hf]at hr
 obtain⟨r1,r2⟩:=mg h hr
 rcases he with rfl|rfl
 ·exact⟨hd,_,r1,hR r2⟩
 ·exact⟨hd,_,r1,hR r2⟩
def kJ (ρ:Env):List E->Prop
 |[]=>True
 |e::l=>e.b ρ=true/\kJ ρ l
theorem mf {ρ:Env}:∀ {l:List E},qq ρ l->kJ ρ l:=by
 intro l
 induction l with
 |nil=>intro _;trivial
 |cons e l ih=>intro h;exact⟨h e (.head _),ih fun x hx=>h x (.tail _ hx)⟩
def VC.isNo (v:VC):Bool:=match zax v with
 | .no=>true
 |_=>false
def ye (ρ:Env):List VC->Prop
 |[]=>True
 |v::l=>(kJ ρ v.pc->v.e.b ρ=true)/\ye ρ l
theorem kT {ρ:Env}:∀ {l:List VC},ye ρ l->jx ρ l:=by
 intro l
 induction l with
 |nil=>intro _ v h;cases h
 |cons a l ih=>
  intro h v hv
  cases hv with
  |head=>exact fun hp=>h.1 (mf hp)
  |tail _ hv=>exact ih h.2 v hv
theorem jg {l W:List VC} (h:qL l [] []=W) (hn:W.all VC.isNo=true) (ρ:Env):∃ρ',Same ρ ρ' [] []/\qA ρ' l/\(jx ρ' W->jx ρ' l):=by
 obtain⟨ρ',h1,h2⟩:=zh4 l [] [] ρ ⟨fun h e hm=>(by cases hm),fun h e hm=>(by cases hm)⟩
 rw[h]at h2
 refine⟨ρ',h1,?_,fun hW v hv=>(h2 v hv).elim id (hW v)⟩
 have key:∀m:List VC,(∀v∈m,v.holds ρ'\/v∈W)->qA ρ' m:=by
  intro m
  induction m with
  |nil=>intro _;trivial
  |cons a m ih=>
   intro hm
   refine⟨?_,ih fun v hv=>hm v (.tail _ hv)⟩
   rcases hm a (.head _)with ha|ha
   ·exact zay ha
   ·have:=List.all_eq_true.1 hn a ha
    unfold VC.isNo at this
    unfold VC.says
    split at this
    ·rename_i hd;rw[hd];trivial
    ·cases this
 exact key l h2
def ya (P:Program) (et:TypeId) (cfg:Cfg) (f:FuncId) (cs:List Code) (S:St):Option (T Lf × List VC):=zai P et (zH P et cfg (zi P et) 20) (zi P et (zH P et cfg (zi P et) 20)) (cfg.fc f) cs [] S
theorem QK {P:Program} {et:TypeId} {cfg:Cfg} {f:FuncId} {cs:List Code} {S:St} {l:List LS} {vcs:List VC} (hr:ran (ya P et cfg f cs S) l vcs=true) {ρ:Env} (he:ρ.et=et) (hs:HOK P ρ cfg.sum) (hv:jx ρ vcs)
  {b:Bd} {base:Nat->Prop} {w0 w:World} {a:Act} (hrel:Rel ρ b base w0 w S a.tmps):wpL P cs (zp9 ρ base w0 b S.next l a.defers) a w:=
 have hc:=QM he hs (fun h hh=>yX he h hh) 20
 zms he hc (yX he _ hc) hr hv hrel
theorem jh {P:Program} {et:TypeId} {cfg:Cfg} {f:FuncId} {fn:Func} (hf:P.funcs[f]? =some fn) (hb:fn.body.isSome=true) {k i n:Nat} (hn:(qy P f).length<=n) (hl:Gt P f k i=true)
  {args:List SV} {H:List (Nat × HEnt)} {nx:Nat} {S1:St} {L0 L1 L2:List LS} {V0 V1 V2 W0 W1 W2:List VC}
  (r0:ran (ya P et cfg f (qG P f 0 k) (start P f args H nx)) L0 V0=true) (d0:qL V0 [] []=W0) (n0:W0.all VC.isNo=true)
  (r1:ran (ya P et cfg f (k9 P f k) S1) L1 V1=true) (d1:qL V1 [] []=W1) (n1:W1.all VC.isNo=true)
  (r2:ran (ya P et cfg f (qG P f (k+1) n) S1) L2 V2=true) (d2:qL V2 [] []=W2) (n2:W2.all VC.isNo=true)
  {V:Value} (J I I2:Env->Prop) (μ:Env->Nat)
  (hJ:∀ρ,J ρ->ρ.et=et/\HOK P ρ cfg.sum) (hI:∀ρ,I ρ->ρ.et=et/\HOK P ρ cfg.sum)
  (sJ:∀ρ ρ',J ρ->Same ρ ρ' [] []->J ρ') (sI:∀ρ ρ',I ρ->Same ρ ρ' [] []->I ρ'/\μ ρ'=μ ρ) (i21:∀ρ,I2 ρ->I ρ) (sI2:∀ρ ρ',I2 ρ->Same ρ ρ' [] []->I2 ρ')
  (self:(start P f args H nx).pat ⟨[],[]⟩ (start P f args H nx)=true) (fit0:∀ρ,J ρ->∀r∈(start P f args H nx).rs,r.fit ρ)
  (fit:∀ρ,I ρ->∀r∈S1.rs,r.fit ρ)
  (z0:∀ρ,J ρ->qA ρ V0->ye ρ W0) (z1:∀ρ,I ρ->qA ρ V1->ye ρ W1) (z2:∀ρ,I2 ρ->qA ρ V2->ye ρ W2)
  (e0:∀s∈L0,∀ρ,J ρ->qA ρ V0->kJ ρ s.pc->(s.x= .ret/\(∀r∈s.S.rs,r.fit (ρ.sub s.σ))/\∃rs,ko P f s.S=some rs/\∀b,(qJ rs).den (ρ.sub s.σ) b=V)\/(s.x= .normal/\s.S=S1/\I (ρ.sub s.σ)))
  (e1:∀s∈L1,∀ρ,I ρ->qA ρ V1->kJ ρ s.pc->(s.x= .normal/\s.S=S1/\I (ρ.sub s.σ)/\μ (ρ.sub s.σ)<μ ρ)\/(s.x= .exit i/\s.S=S1/\I2 (ρ.sub s.σ))\/(s.x= .ret/\(∀r∈s.S.rs,r.fit (ρ.sub s.σ))/\∃rs,ko P f s.S=some rs/\∀b,(qJ rs).den (ρ.sub s.σ) b=V))
  (e2:∀s∈L2,∀ρ,I2 ρ->qA ρ V2->kJ ρ s.pc->(s.x= .normal\/s.x= .ret)/\(∀r∈s.S.rs,r.fit (ρ.sub s.σ))/\∃rs,ko P f s.S=some rs/\∀b,(qJ rs).den (ρ.sub s.σ) b=V)
  {ρ:Env} (hρ:J ρ) (b:Bd) (w:World) (hH:HRel ρ b (· <w.heap.size) w H (· <nx)) (ha:SV.okL ρ (· <nx) args) (hm:Mem ρ (· <w.heap.size) w):
  Calls P f (SV.denL ρ b args).toArray w fun e w'=>e= .returned V/\Below w.heap.size w w':=by
 obtain⟨ρ1,hs1,hy1,hx1⟩:=jg d0 n0 ρ
 have hJ1:=sJ ρ ρ1 hρ hs1
 have hv1:=hx1 (kT (z0 ρ1 hJ1 hy1))
 obtain⟨c,hc⟩:∃c,(qy P f)[k]? =some c:=by
  unfold Gt at hl
  split at hl
  ·rename_i j x hx;exact⟨_,hx⟩
  ·cases hl
 refine zak hf hb hc hn ?_
 have hstart:=St.pat_ok (Reads.of (σ:=⟨[],[]⟩) hs1) self (fit0 ρ1 hJ1) (Gu (ρ:=ρ) (b:=b) (w0:=w) hf hH hm (Kept.refl _ _) (fun k hk=>hk) ha)
 refine jK ?_ _ _ (QK r0 (hJ ρ1 hJ1).1 (hJ ρ1 hJ1).2 hv1 hstart)
 rintro e a1 w1 ⟨hd1,s,hs,rfl,hpc,b1,_,hrel1⟩
 rcases e0 s hs ρ1 hJ1 (QQ hv1) (mf hpc)with⟨hx,hrs,rs,hret,hval⟩|⟨hx,hS,hI1⟩
 ·rw[hx]
  simp only[XK.ex,Exit.then]
  have hr:=hrel1 (ρ1.sub s.σ) (Reads.of ⟨fun _ _=>rfl,fun _ _=>rfl,rfl,rfl,rfl,rfl,rfl,rfl,rfl,rfl,rfl⟩) hrs
  exact Gv hf hret (.inr rfl) hd1 hr fun _=>⟨by rw[hval],hr.below.below⟩
 ·rw[hx]
  simp only[XK.ex,Exit.then]
  obtain⟨ρ2,hs2,hy2,hx2⟩:=jg d1 n1 (ρ1.sub s.σ)
  obtain⟨hI2,hμ2⟩:=sI _ _ hI1 hs2
  have hv2:=hx2 (kT (z1 ρ2 hI2 hy2))
  have hr2:=hrel1 ρ2 (Reads.of hs2) (by rw[hS];exact fit ρ2 hI2)
  rw[hS]at hr2
  refine zaj (J:=fun n a w'=>a.defers=[]/\∃ρ b',I ρ/\μ ρ=n/\jx ρ V1/\Rel ρ b' (· <w.heap.size) w w' S1 a.tmps) hl (n:=μ ρ2) ⟨hd1,ρ2,b1,hI2,rfl,hv2,hr2⟩ ?_ c hc
  rintro m a w' ⟨hd,ρ3,b3,hI3,rfl,hv3,hr3⟩
  refine jK ?_ _ _ (QK r1 (hI ρ3 hI3).1 (hI ρ3 hI3).2 hv3 hr3)
  rintro e a4 w4 ⟨hd4,t,ht,rfl,hpc4,b4,_,hrel4⟩
  rcases e1 t ht ρ3 hI3 (QQ hv3) (mf hpc4)with⟨hx,hS,hI4,hμ⟩|⟨hx,hS,hI4⟩|⟨hx,hrs,rs,hret,hval⟩
  ·rw[hx]
   simp only[XK.ex]
   obtain⟨ρ5,hs5,hy5,hx5⟩:=jg d1 n1 (ρ3.sub t.σ)
   obtain⟨hI5,hμ5⟩:=sI _ _ hI4 hs5
   have hv5:=hx5 (kT (z1 ρ5 hI5 hy5))
   have hr5:=hrel4 ρ5 (Reads.of hs5) (by rw[hS];exact fit ρ5 hI5)
   rw[hS]at hr5
   exact⟨μ ρ5,by rw[hμ5];exact hμ,hd4.trans hd,ρ5,b4,hI5,rfl,hv5,hr5⟩
  ·rw[hx]
   simp only[XK.ex,if_true,Exit.then]
   obtain⟨ρ5,hs5,hy5,hx5⟩:=jg d2 n2 (ρ3.sub t.σ)
   have hI25:=sI2 _ _ hI4 hs5
   have hv5:=hx5 (kT (z2 ρ5 hI25 hy5))
   have hI5:=i21 _ hI25
   have hr5:=hrel4 ρ5 (Reads.of hs5) (by rw[hS];exact fit ρ5 hI5)
   rw[hS]at hr5
   refine jK ?_ _ _ (QK r2 (hI ρ5 hI5).1 (hI ρ5 hI5).2 hv5 hr5)
   rintro e a6 w6 ⟨hd6,u,hu,rfl,hpc6,b6,_,hrel6⟩
   obtain⟨hx6,hrs6,rs,hret6,hval6⟩:=e2 u hu ρ5 hI25 (QQ hv5) (mf hpc6)
   have hr6:=hrel6 (ρ5.sub u.σ) (Reads.of ⟨fun _ _=>rfl,fun _ _=>rfl,rfl,rfl,rfl,rfl,rfl,rfl,rfl,rfl,rfl⟩) hrs6
   refine Gv hf hret6 ?_ (hd6.trans (hd4.trans hd)) hr6 fun _=>⟨by rw[hval6],hr6.below.below⟩
   rcases hx6 with h|h<;>rw[h]
   ·exact .inl rfl
   ·exact .inr rfl
  ·rw[hx]
   simp only[XK.ex,Exit.then]
   have hr4:=hrel4 (ρ3.sub t.σ) (Reads.of ⟨fun _ _=>rfl,fun _ _=>rfl,rfl,rfl,rfl,rfl,rfl,rfl,rfl,rfl,rfl⟩) hrs
   exact Gv hf hret (.inr rfl) (hd4.trans hd) hr4 fun _=>⟨by rw[hval],hr4.below.below⟩
theorem kq {P:Program} {et:TypeId} {cfg:Cfg} {f:FuncId} {fn:Func} (hf:P.funcs[f]? =some fn) (hb:fn.body.isSome=true)
  {args:List SV} {H:List (Nat × HEnt)} {nx:Nat} {L0:List LS} {V0 W0:List VC}
  (r0:ran (ya P et cfg f (qy P f) (start P f args H nx)) L0 V0=true) (d0:qL V0 [] []=W0) (n0:W0.all VC.isNo=true)
  {V:Value} (J:Env->Prop)
  (hJ:∀ρ,J ρ->ρ.et=et/\HOK P ρ cfg.sum) (sJ:∀ρ ρ',J ρ->Same ρ ρ' [] []->J ρ')
  (self:(start P f args H nx).pat ⟨[],[]⟩ (start P f args H nx)=true) (fit0:∀ρ,J ρ->∀r∈(start P f args H nx).rs,r.fit ρ)
  (z0:∀ρ,J ρ->qA ρ V0->ye ρ W0)
  (e0:∀s∈L0,∀ρ,J ρ->qA ρ V0->kJ ρ s.pc->(s.x= .normal\/s.x= .ret)/\(∀r∈s.S.rs,r.fit (ρ.sub s.σ))/\∃rs,ko P f s.S=some rs/\∀b,(qJ rs).den (ρ.sub s.σ) b=V)
  {ρ:Env} (hρ:J ρ) (b:Bd) (w:World) (hH:HRel ρ b (· <w.heap.size) w H (· <nx)) (ha:SV.okL ρ (· <nx) args) (hm:Mem ρ (· <w.heap.size) w):
  Calls P f (SV.denL ρ b args).toArray w fun e w'=>e= .returned V/\Below w.heap.size w w':=by
 obtain⟨ρ1,hs1,hy1,hx1⟩:=jg d0 n0 ρ
 have hJ1:=sJ ρ ρ1 hρ hs1
 have hv1:=hx1 (kT (z0 ρ1 hJ1 hy1))
 refine Yu hf hb ?_
 have hstart:=St.pat_ok (Reads.of (σ:=⟨[],[]⟩) hs1) self (fit0 ρ1 hJ1) (Gu (ρ:=ρ) (b:=b) (w0:=w) hf hH hm (Kept.refl _ _) (fun k hk=>hk) ha)
 refine jK ?_ _ _ (QK r0 (hJ ρ1 hJ1).1 (hJ ρ1 hJ1).2 hv1 hstart)
 rintro e a1 w1 ⟨hd1,s,hs,rfl,hpc,b1,_,hrel1⟩
 obtain⟨hx,hrs,rs,hret,hval⟩:=e0 s hs ρ1 hJ1 hy1 (mf hpc)
 have hr:=hrel1 (ρ1.sub s.σ) (Reads.of ⟨fun _ _=>rfl,fun _ _=>rfl,rfl,rfl,rfl,rfl,rfl,rfl,rfl,rfl,rfl⟩) hrs
 refine Gv hf hret ?_ hd1 hr fun _=>⟨by rw[hval],hr.below.below⟩
 rcases hx with h|h<;>rw[h]
 ·exact .inl rfl
 ·exact .inr rfl
end Go.Proofs.YtoakpnoajmngmaaGreatDoor.Sx
namespace Go.Proofs.YtoakpnoajmngmaaGreatDoor.Sx
open Go.RowKit
structure ME where
 f:FuncId
 args:List SV
 H:List (Nat × HEnt)
 nx:Nat
 c:CR
 vs:List VC
def CR.same (c d:CR):Bool:=c.v.same d.v&&YD c.heap d.heap&&Nat.beq c.next d.next
theorem CR.same_eq {c d:CR} (h:c.same d=true):c=d:=by
 unfold CR.same at h
 simp only[Bool.and_eq_true]at h
 obtain⟨⟨h1,h2⟩,h3⟩:=h
 cases c;cases d
 simp only at h1 h2 h3
 rw[SV.same_eq _ _ h1,GC h2,Nat.eq_of_beq_eq_true h3]
def ME.chk (e:ME) (r:Option (T CR × List VC)):Bool:=match r with
 |some (.leaf c,vs)=>c.same e.c&&vs.all fun v=>v.triv||e.vs.any fun u=>v.same u
 |_=>false
def qk (l:List ME):zl:=fun _ f args H nx=>
 match l.find? fun e=>Nat.beq e.f f&&Nat.beq e.nx nx&&SV.sameL args e.args&&YD H e.H with
 |some e=>some (.leaf e.c,e.vs)
 |none=>none
theorem Gw {P:Program} {et:TypeId} {cfg:Cfg} {ρ:Env} (he:ρ.et=et) (hs:HOK P ρ cfg.sum) {l:List ME} (hl:∀e∈l,e.chk (zH P et cfg (zi P et) 20 [] e.f e.args e.H e.nx)=true):HOK P ρ (qk l):=by
 intro pc f args H nx r vs hr hpc hv
 unfold qk at hr
 split at hr
 ·rename_i e hf
  cases hr
  have hm:=List.mem_of_find?_eq_some hf
  have hp:=List.find?_some hf
  simp only[Bool.and_eq_true]at hp
  obtain⟨⟨⟨h1,h2⟩,h3⟩,h4⟩:=hp
  have e1:=Nat.eq_of_beq_eq_true h1
  have e2:=Nat.eq_of_beq_eq_true h2
  have e3:=SV.sameL_eq _ _ h3
  have e4:=GC h4
  subst e1 e2 e3 e4
  have hk:=hl e hm
  unfold ME.chk at hk
  split at hk
  ·rename_i c vs' hc
   rw[Bool.and_eq_true,List.all_eq_true]at hk
   have hcc:=CR.same_eq hk.1
   subst hcc
   refine QM he hs (fun h hh=>yX he h hh) 20 [] e.f e.args e.H e.nx (.leaf e.c) vs' hc (zq ρ) (fun v hv'=>?_)
   have:=hk.2 v hv'
   rw[Bool.or_eq_true]at this
   rcases this with this|this
   ·exact VC.triv_ok this ρ
   rw[List.any_eq_true]at this
   obtain⟨u,hu,hs'⟩:=this
   rw[VC.same_eq hs']
   exact hv u hu
  ·cases hk
 ·cases hr
end Go.Proofs.YtoakpnoajmngmaaGreatDoor.Sx
