import Derived.Test.YtoakpnoajmngmaaGreatDoorSxL
import Derived.LoopN
import Derived.Orders
set_option linter.unusedVariables false
set_option linter.unusedSimpArgs false
namespace Go.Proofs.YtoakpnoajmngmaaGreatDoor.Sx
open Go.RowKit (Below)
theorem zG {α:Type} {l:List (Nat × α)} {n:Nat} {x:α} (h:zB l n=some x):(n,x)∈l:=by
 induction l with
 |nil=>cases h
 |cons a l ih=>
  obtain⟨m,y⟩:=a
  simp only[zB]at h
  split at h
  ·rename_i he;cases h;subst he;exact .head _
  ·exact .tail _ (ih h)
def zqU:SV->SV->Bool
 | .ptr _ _,.ptr _ _=>true
 | .fn _ _,.fn _ _=>true
 | .tup _,_=>true
 |_,.tup _=>true
 | .con _,_=>true
 |_,.con _=>true
 |_,_=>false
def zhU:SV->SV->Bool
 | .int _ a,.int _ c=>decide (a.lo=a.hi/\c.lo=c.hi/\¬a.lo=c.lo)
 |_,_=>false
def zno (et:TypeId) (k:Bool) (d:E) (L M:List (Nat × Ent)):List (Nat × Ent)->Option (List (Nat × Ent))
 |[]=>some []
 |(i,_)::r=>
  match zno et k d L M r,zB L i,zB M i with
  |some r',some x,some y=>
   if x.g.isEmpty&&y.g.isEmpty then
    (if k&&zhU x.sv y.sv then none else
    match M0 et d x.sv y.sv with
    |some v=>some ((i,⟨[],v⟩)::r')
    |none=>if zqU x.sv y.sv then some r' else none)
   else some r'
  |some r',_,_=>some r'
  |none,_,_=>none
theorem Gx {et:TypeId} {k:Bool} {d:E} {L M:List (Nat × Ent)}:∀ {l r:List (Nat × Ent)},zno et k d L M l=some r->∀i e,(i,e)∈r->∃x y v,zB L i=some x/\zB M i=some y/\x.g=[]/\y.g=[]/\M0 et d x.sv y.sv=some v/\e=⟨[],v⟩:=by
 intro l
 induction l with
 |nil=>intro r h i e hm;cases h;cases hm
 |cons a l ih=>
  obtain⟨j,z⟩:=a
  intro r h i e hm
  simp only[zno]at h
  split at h
  ·rename_i r' x y h1 h2 h3
   split at h
   ·rename_i hg
    simp at hg
    split at h
    ·cases h
    ·split at h
     ·rename_i v hv
      cases h
      cases hm with
      |head=>exact⟨x,y,v,h2,h3,hg.1,hg.2,hv,rfl⟩
      |tail _ hm=>exact ih h1 i e hm
     ·split at h
      ·cases h;exact ih h1 i e hm
      ·cases h
   ·cases h;exact ih h1 i e hm
  ·rename_i r' _ _ h1
   cases h;exact ih ‹_› i e hm
  ·cases h
def Blk.keepI (B:Blk):Bool:=match B.kind,B.cells with
 | .grow _,.ifc _ _::_=>true
 |_,_=>false
def zhV (et:TypeId) (d:E) (n0:Nat) (L M:List (Nat × HEnt)):List (Nat × HEnt)->Option (List (Nat × HEnt))
 |[]=>some []
 |(i,_)::r=>
  match zhV et d n0 L M r,zB L i,zB M i with
  |some r',some x,some y=>
   if x.g.isEmpty&&y.g.isEmpty&&decide (x.blk.kind=y.blk.kind)&&decide (x.blk.elem=y.blk.elem)then
    match JO (M0 et d) x.blk.cells y.blk.cells with
    |some v=>some ((i,⟨[],⟨v,x.blk.elem,x.blk.kind⟩⟩)::r')
    |none=>if(decide (i<n0)||x.blk.keepI)=true then none else some r'
   else some r'
  |some r',_,_=>some r'
  |none,_,_=>none
theorem yT {et:TypeId} {d:E} {n0:Nat} {L M:List (Nat × HEnt)}:∀ {l r:List (Nat × HEnt)},zhV et d n0 L M l=some r->∀i e,(i,e)∈r->∃x y v,zB L i=some x/\zB M i=some y/\x.g=[]/\y.g=[]/\x.blk.kind=y.blk.kind/\x.blk.elem=y.blk.elem/\JO (M0 et d) x.blk.cells y.blk.cells=some v/\e=⟨[],⟨v,x.blk.elem,x.blk.kind⟩⟩:=by
 intro l
 induction l with
 |nil=>intro r h i e hm;cases h;cases hm
 |cons a l ih=>
  obtain⟨j,z⟩:=a
  intro r h i e hm
  simp only[zhV]at h
  split at h
  ·rename_i r' x y h1 h2 h3
   split at h
   ·rename_i hg
    simp at hg
    split at h
    ·rename_i v hv
     cases h
     cases hm with
     |head=>exact⟨x,y,v,h2,h3,hg.1.1.1,hg.1.1.2,hg.1.2,hg.2,hv,rfl⟩
     |tail _ hm=>exact ih h1 i e hm
    ·split at h
     ·cases h
     ·cases h;exact ih h1 i e hm
   ·cases h;exact ih h1 i e hm
  ·cases h;exact ih ‹_› i e hm
  ·cases h
theorem zfj {et:TypeId} {ρ:Env} (he:ρ.et=et) {d:E} (hd:d.b ρ=true) {n0:Nat} {L M r:List (Nat × HEnt)} {l:List (Nat × HEnt)} (h:zhV et d n0 L M l=some r) {b:Bd} {base:Nat->Prop} {w:World} {N K:Nat->Prop} (hN:∀n,N n->K n) (hr:HRel ρ b base w L N):HRel ρ b base w r K:=by
 have hz:=fun cs ds v (hz:JO (M0 et d) cs ds=some v) (hk:SV.okL ρ N cs)=>JP (ρ:=ρ) (b:=b) (N:=N) (fun x y v h hx=>M3 he hd h (b:=b) hx) hz hk
 constructor
 ·intro n e hf hg
  obtain⟨x,y,v,h1,h2,h3,h4,h5,h6,h7,rfl⟩:=yT h n e (zG hf)
  obtain⟨a1,a2,a3⟩:=hr.mem n x h1 (by rw[h3];exact zq ρ)
  have:=hz _ _ _ h7 a3
  exact⟨hN n a1,a2.cells this.1,SV.okL_mono hN _ this.2⟩
 ·intro n m e k hf hk hg hgk ho hok heq
  obtain⟨x,y,v,h1,h2,h3,h4,h5,h6,h7,rfl⟩:=yT h n e (zG hf)
  obtain⟨x',y',v',h1',h2',h3',h4',h5',h6',h7',rfl⟩:=yT h m k (zG hk)
  exact hr.inj n m x x' h1 h1' (by rw[h3];exact zq ρ) (by rw[h3'];exact zq ρ) ho hok heq
theorem zfk {et:TypeId} {ρ:Env} (he:ρ.et=et) {d:E} (hd:d.b ρ=false) {n0:Nat} {L M r:List (Nat × HEnt)} {l:List (Nat × HEnt)} (h:zhV et d n0 L M l=some r) {b:Bd} {base:Nat->Prop} {w:World} {N K:Nat->Prop} (hN:∀n,N n->K n) (hr:HRel ρ b base w M N):HRel ρ b base w r K:=by
 have hz:=fun cs ds v (hz:JO (M0 et d) cs ds=some v) (hk:SV.okL ρ N ds)=>JQ (ρ:=ρ) (b:=b) (N:=N) (fun x y v h hx=>M4 he hd h (b:=b) hx) hz hk
 constructor
 ·intro n e hf hg
  obtain⟨x,y,v,h1,h2,h3,h4,h5,h6,h7,rfl⟩:=yT h n e (zG hf)
  obtain⟨a1,a2,a3⟩:=hr.mem n y h2 (by rw[h4];exact zq ρ)
  have:=hz _ _ _ h7 a3
  rw[h5,h6]
  exact⟨hN n a1,a2.cells this.1,SV.okL_mono hN _ this.2⟩
 ·intro n m e k hf hk hg hgk ho hok heq
  obtain⟨x,y,v,h1,h2,h3,h4,h5,h6,h7,rfl⟩:=yT h n e (zG hf)
  obtain⟨x',y',v',h1',h2',h3',h4',h5',h6',h7',rfl⟩:=yT h m k (zG hk)
  exact hr.inj n m y y' h2 h2' (by rw[h4];exact zq ρ) (by rw[h4'];exact zq ρ) (by simpa [Blk.own,h5]using ho) (by simpa [Blk.own,h5']using hok) heq
def zmt (et:TypeId) (k:Bool) (d:E) (n0:Nat) (S U:St):Option St:=
 if S.nt=U.nt then
  match zno et k d S.tmps U.tmps S.tmps,zhV et d n0 S.heap U.heap S.heap with
  |some t,some h=>some ⟨t,h,max S.next U.next,S.nt⟩
  |_,_=>none
 else none
theorem zmu {et:TypeId} {ρ:Env} (he:ρ.et=et) {k:Bool} {d:E} (hd:d.b ρ=true) {n0:Nat} {S U V:St} (h:zmt et k d n0 S U=some V) {b:Bd} {base:Nat->Prop} {w0 w:World} {tm:Array Value} (hr:Rel ρ b base w0 w S tm):Rel ρ b base w0 w V tm/\S.next<=V.next:=by
 unfold zmt at h
 split at h
 ·split at h
  ·rename_i t hp h1 h2
   cases h
   refine⟨⟨zfj he hd h2 (fun n hn=>Nat.lt_of_lt_of_le hn (Nat.le_max_left _ _)) hr.heap,fun i e hf=>?_,hr.below,hr.base,hr.nt,hr.kept⟩,Nat.le_max_left _ _⟩
   obtain⟨x,y,v,a1,a2,a3,a4,a5,rfl⟩:=Gx h1 i e (zG hf)
   obtain⟨b1,b2⟩:=(hr.tmps i x a1).1 (by rw[a3];exact zq ρ)
   have:=M3 he hd a5 (b:=b) b2
   exact⟨fun _=>⟨by rw[this.1];exact b1,SV.ok_mono (fun n hn=>Nat.lt_of_lt_of_le hn (Nat.le_max_left _ _)) _ this.2⟩,fun hn=>absurd (zq ρ) hn⟩
  ·cases h
 ·cases h
theorem zmv {et:TypeId} {ρ:Env} (he:ρ.et=et) {k:Bool} {d:E} (hd:d.b ρ=false) {n0:Nat} {S U V:St} (h:zmt et k d n0 S U=some V) {b:Bd} {base:Nat->Prop} {w0 w:World} {tm:Array Value} (hr:Rel ρ b base w0 w U tm):Rel ρ b base w0 w V tm/\U.next<=V.next:=by
 unfold zmt at h
 split at h
 ·rename_i hnt
  split at h
  ·rename_i t hp h1 h2
   cases h
   refine⟨⟨zfk he hd h2 (fun n hn=>Nat.lt_of_lt_of_le hn (Nat.le_max_right _ _)) hr.heap,fun i e hf=>?_,hr.below,hr.base,hr.nt.trans hnt.symm,hr.kept⟩,Nat.le_max_right _ _⟩
   obtain⟨x,y,v,a1,a2,a3,a4,a5,rfl⟩:=Gx h1 i e (zG hf)
   obtain⟨b1,b2⟩:=(hr.tmps i y a2).1 (by rw[a4];exact zq ρ)
   have:=M4 he hd a5 (b:=b) b2
   exact⟨fun _=>⟨by rw[this.1];exact b1,SV.ok_mono (fun n hn=>Nat.lt_of_lt_of_le hn (Nat.le_max_right _ _)) _ this.2⟩,fun hn=>absurd (zq ρ) hn⟩
  ·cases h
 ·cases h
inductive XK where
 |normal|exit (id:Nat)|ret
 deriving DecidableEq,Repr,Inhabited
structure Lf where
 x:XK
 st:St
 deriving Inhabited
def T.norm (et:TypeId) (k:Bool) (n0:Nat):T Lf->T Lf
 | .leaf l=> .leaf l
 | .node c t u=>
   match T.norm et k n0 t,T.norm et k n0 u with
   | .leaf l,.leaf m=>if l.x=m.x then(match zmt et k c n0 l.st m.st with
     |some S=> .leaf ⟨l.x,S⟩
     |none=> .node c (.leaf l) (.leaf m))else .node c (.leaf l) (.leaf m)
   |t',u'=> .node c t' u'
theorem T.norm_ok {et:TypeId} {ρ:Env} (he:ρ.et=et) {k:Bool} {n0:Nat} {b:Bd} {base:Nat->Prop} {w0 w:World} {tm:Array Value}:∀(t:T Lf),Rel ρ b base w0 w (t.at ρ).st tm->((T.norm et k n0 t).at ρ).x=(t.at ρ).x/\Rel ρ b base w0 w ((T.norm et k n0 t).at ρ).st tm/\(t.at ρ).st.next<=((T.norm et k n0 t).at ρ).st.next:=by
 intro t
 induction t with
 |leaf l=>exact fun h=>⟨rfl,h,Nat.le_refl _⟩
 |node c t u iht ihu=>
  intro h
  have key:((if c.b ρ=true then(T.norm et k n0 t).at ρ else(T.norm et k n0 u).at ρ)).x=((T.node c t u).at ρ).x/\Rel ρ b base w0 w (if c.b ρ=true then(T.norm et k n0 t).at ρ else(T.norm et k n0 u).at ρ).st tm/\((T.node c t u).at ρ).st.next<=(if c.b ρ=true then(T.norm et k n0 t).at ρ else(T.norm et k n0 u).at ρ).st.next:=by
   simp only[T.at]at h ⊢
   by_cases hc:c.b ρ=true
   ·simp only[hc,if_true]at h ⊢;exact iht h
   ·simp only[hc]at h ⊢;exact ihu h
  simp only[T.norm]
  split
  ·rename_i l m hl hm
   rw[hl,hm]at key
   simp only[T.at]at key
   split
   ·rename_i hx
    split
    ·rename_i S hS
     simp only[T.at]
     by_cases hc:c.b ρ=true
     ·simp only[hc,if_true]at key ⊢
      have:=zmu he hc hS key.2.1
      exact⟨key.1,this.1,Nat.le_trans key.2.2 this.2⟩
     ·have hc':c.b ρ=false:=by simpa using hc
      simp only[hc',Bool.false_eq_true,if_false]at key ⊢
      have:=zmv he hc' hS key.2.1
      exact⟨hx▸key.1,this.1,Nat.le_trans key.2.2 this.2⟩
    ·exact key
   ·exact key
  ·rename_i t' u' _
   exact key
def jL (P:Program) (S:St):List ResultVar->Option (List SV)
 |[]=>some []
 | .tmp t::l=>match ev [] S (.tmp t),jL P S l with
   |some v,some r=>some (v::r)
   |_,_=>none
 | .cell t ty::l=>match ev [] S (.tmp t),jL P S l with
   |some (.ptr n off),some r=>match MX [] S n with
    |some B=>match g8 P ty B.cells off with
     |some v=>some (v::r)
     |none=>none
    |none=>none
   |_,_=>none
def zmw (tm:Array Value):ResultVar->Sem Value
 | .tmp t=>pure (tm.getD t undef)
 | .cell x t=>do loadVar t (<-asAddr (tm.getD x undef))
theorem VH (fn:Func) (tm:Array Value):results fn tm=(do let vs<-fn.results.mapM (zmw tm);pure (if h:vs.size=1 then vs[0]else .tuple vs)):=by
 rfl
theorem Yv {P:Program} {ρ:Env} {b:Bd} {base:Nat->Prop} {w0 w:World} {S:St} {a:Act} (h:Rel ρ b base w0 w S a.tmps):∀ {l:List ResultVar} {r:List SV},jL P S l=some r->
  (l.mapM (zmw a.tmps)).run P w= .ok (SV.denL ρ b r) w/\SV.okL ρ (· <S.next) r:=by
 intro l
 induction l with
 |nil=>intro r hr;cases hr;exact⟨rfl,trivial⟩
 |cons x l ih=>
  intro r hr
  cases x with
  |tmp t=>
   simp only[jL]at hr
   split at hr
   ·rename_i v r' h1 h2
    cases hr
    have e1:=qf h (zq ρ) h1
    have e2:=ih h2
    have e3:a.tmps.getD t undef=v.den ρ b:=e1.1
    exact⟨by simp only[List.mapM_cons,zmw,Sem.run_bind,Sem.run_pure,Result.andThen,e2.1,e3,SV.denL],e1.2,e2.2⟩
   ·cases hr
  |cell t ty=>
   simp only[jL]at hr
   split at hr
   ·rename_i n off r' h1 h2
    split at hr
    ·rename_i B hB
     split at hr
     ·rename_i v hv
      cases hr
      have e1:=qf h (zq ρ) h1
      have e2:=ih h2
      have e3:a.tmps.getD t undef=(SV.ptr n off).den ρ b:=e1.1
      have e4:=Qz h (zq ρ) hB
      have e5:=QB hv (b:=b) e4.2.2 (w:=w) (a:=⟨b.β n,b.o n+off,none⟩) (fun i u hu=>by
       rw[kf]
       exact Blk.ok.cell e4.2.1 hu)
      have e6:(zmw a.tmps (.cell t ty)).run P w= .ok (v.den ρ b) w:=by
       show(do loadVar ty (<-asAddr (a.tmps.getD t undef)):Sem Value).run P w=_
       rw[e3];simp only[SV.den,asAddr,Sem.run_bind,Sem.run_pure,Result.andThen,e5.1]
      refine⟨?_,e5.2,e2.2⟩
      rw[List.mapM_cons,Sem.run_bind,e6]
      simp only[Result.andThen,Sem.run_bind,e2.1,Sem.run_pure,SV.denL]
     ·cases hr
    ·cases hr
   ·cases hr
def qJ:List SV->SV
 |[v]=>v
 |l=> .tup l
theorem mg {P:Program} {ρ:Env} {b:Bd} {base:Nat->Prop} {w0 w:World} {S:St} {a:Act} (h:Rel ρ b base w0 w S a.tmps) {fn:Func} {r:List SV} (hr:jL P S fn.results.toList=some r):
  (results fn a.tmps).run P w= .ok ((qJ r).den ρ b) w/\(qJ r).ok ρ (· <S.next):=by
 have e:=Yv h hr
 have hm:(fn.results.mapM (zmw a.tmps)).run P w= .ok (SV.denL ρ b r).toArray w:=by
  rw[Array.mapM_eq_mapM_toList]
  simp only[Sem.run_map,Result.andThen]
  rw[e.1]
 refine⟨?_,?_⟩
 ·rw[VH]
  simp only[Sem.run_bind,hm,Result.andThen,Sem.run_pure]
  congr 1
  match r with
  |[]=>rfl
  |[v]=>rfl
  |v::u::l=>simp[qJ,SV.den,SV.denL]
 ·match r,e.2 with
  |[],_=>exact trivial
  |[v],h=>exact h.1
  |v::u::l,h=>exact h
end Go.Proofs.YtoakpnoajmngmaaGreatDoor.Sx
namespace Go.Proofs.YtoakpnoajmngmaaGreatDoor.Sx
open Go.RowKit (Below)
def E.left:E->Nat->Nat
 | .un _ a,n=>if n=0 then 0 else a.left (n-1)
 | .bin _ a b,n=>if n=0 then 0 else b.left (a.left (n-1))
 | .ite d a b,n=>if n=0 then 0 else b.left (a.left (d.left (n-1)))
 | .ap _ a,n=>if n=0 then 0 else a.left (n-1)
 | .cons a b,n=>if n=0 then 0 else b.left (a.left (n-1))
 |_,n=>n-1
def kNo:IntKind->Nat
 | .i8=>1| .i16=>2| .i32=>3| .i64=>4| .u8=>5| .u16=>6| .u32=>7| .u64=>8
def BOp.no:BOp->Nat
 | .add=>11| .sub=>12| .mul=>13| .quo=>14| .rem=>15| .div=>16| .mod=>17| .min=>18| .max=>19| .lt=>20| .le=>21| .eq=>22| .and=>23| .or=>24| .app=>25
def KT (a b:Nat):Nat:=(a*1000003+b*998244353+12345)%2305843009213693951
def E.hash:E->Nat
 | .v n=>KT 1 n
 | .bv n=>KT 2 n
 | .c z=>match z with
   | .ofNat n=>KT 3 n
   | .negSucc n=>KT 4 n
 | .bc b=>if b then 5 else 6
 | .un o a=>KT (match o with| .not=>7| .wrap k=>30+kNo k) a.hash
 | .bin o a b=>KT (KT (100+o.no) a.hash) b.hash
 | .ite d a b=>KT (KT (KT 8 d.hash) a.hash) b.hash
 | .ap k a=>KT (KT 9 k) a.hash
 | .nil=>10
 | .cons a b=>KT (KT 11 a.hash) b.hash
def zal (e:E):Nat:=e.hash+1000
def E.big (k:Nat) (e:E):Bool:=Nat.beq (e.left k) 0
def R.nm (k:Nat) (r:R):R:=if r.e.big k then⟨.v (zal r.e),r.lo,r.hi⟩else r
def R.nmc (k:Nat) (r:R):List VC:=if r.e.big k then[⟨[],.bin .eq (.v (zal r.e)) r.e⟩]else[]
def E.nm (k:Nat) (e:E):E:=if e.big k then .bv (zal e)else e
def E.nmc (k:Nat) (e:E):List VC:=if e.big k then[⟨[],.ite (.bv (zal e)) e (.un .not e)⟩]else[]
theorem VC.holds_nil {ρ:Env} {e:E} (h:VC.holds ρ ⟨[],e⟩):e.b ρ=true:=h (zq ρ)
theorem R.nm_i {ρ:Env} {k:Nat} {r:R} (h:jx ρ (r.nmc k)):(r.nm k).e.i ρ=r.e.i ρ/\(r.nm k).lo=r.lo/\(r.nm k).hi=r.hi:=by
 unfold R.nm
 unfold R.nmc at h
 split
 ·rename_i hb
  rw[if_pos hb]at h
  have:=VC.holds_nil (h _ (.head _))
  simp only[E.b,decide_eq_true_eq]at this
  exact⟨this,rfl,rfl⟩
 ·exact⟨rfl,rfl,rfl⟩
theorem R.nm_ok {ρ:Env} {k:Nat} {r:R} (h:jx ρ (r.nmc k)) (hr:r.ok ρ):(r.nm k).ok ρ:=by
 obtain⟨h1,h2,h3⟩:=R.nm_i h
 unfold R.ok
 rw[h1,h2,h3]
 exact hr
theorem E.nm_b {ρ:Env} {k:Nat} {e:E} (h:jx ρ (e.nmc k)):(e.nm k).b ρ=e.b ρ:=by
 unfold E.nm
 unfold E.nmc at h
 split
 ·rename_i hb
  rw[if_pos hb]at h
  have:=VC.holds_nil (h _ (.head _))
  simp only[E.b]at this
  simp only[E.b]
  cases h1:ρ.bv (zal e)<;>simp_all
 ·rfl
mutual
def SV.nm (k:Nat):SV->SV
 | .int j r=> .int j (r.nm k)
 | .bool e=> .bool (e.nm (k+k))
 | .err r=> .err (r.nm k)
 | .agg l=> .agg (SV.nmL k l)
 | .tup l=> .tup (SV.nmL k l)
 | .ifc t v=> .ifc t (v.nm k)
 |v=>v
def SV.nmL (k:Nat):List SV->List SV
 |[]=>[]
 |a::l=>a.nm k::SV.nmL k l
end
mutual
def SV.nmc (k:Nat):SV->List VC
 | .int _ r=>r.nmc k
 | .bool e=>e.nmc (k+k)
 | .err r=>r.nmc k
 | .agg l=>SV.nmcL k l
 | .tup l=>SV.nmcL k l
 | .ifc _ v=>v.nmc k
 |_=>[]
def SV.nmcL (k:Nat):List SV->List VC
 |[]=>[]
 |a::l=>a.nmc k++SV.nmcL k l
end
mutual
theorem SV.nm_ok {ρ:Env} {k:Nat} (b:Bd) {N:Nat->Prop}:(v:SV)->jx ρ (v.nmc k)->v.ok ρ N->(v.nm k).den ρ b=v.den ρ b/\(v.nm k).ok ρ N
 | .int j r,h,hr=>⟨by simp only[SV.nm,SV.den,(R.nm_i h).1],R.nm_ok h hr⟩
 | .bool e,h,_=>⟨by simp only[SV.nm,SV.den,E.nm_b h],trivial⟩
 | .err r,h,hr=>⟨by simp only[SV.nm,SV.den,(R.nm_i h).1],R.nm_ok h hr⟩
 | .agg l,h,hr=>by
   have:=SV.nmL_ok b l h hr
   exact⟨by simp only[SV.nm,SV.den,this.1],this.2⟩
 | .tup l,h,hr=>by
   have:=SV.nmL_ok b l h hr
   exact⟨by simp only[SV.nm,SV.den,this.1],this.2⟩
 | .ifc t v,h,hr=>by
   have:=SV.nm_ok b v h hr
   exact⟨by simp only[SV.nm,SV.den,this.1],this.2⟩
 | .nilp,_,h=>⟨rfl,h⟩
 | .ptr _ _,_,h=>⟨rfl,h⟩
 | .nils,_,h=>⟨rfl,h⟩
 | .sl _ _ _ _,_,h=>⟨rfl,h⟩
 | .slv _ _ _,_,h=>⟨rfl,h⟩
 | .emp _,_,h=>⟨rfl,h⟩
 | .osl _ _ _,_,h=>⟨rfl,h⟩
 | .optr _ _ _ _,_,h=>⟨rfl,h⟩
 | .esl _ _,_,h=>⟨rfl,h⟩
 | .nili,_,h=>⟨rfl,h⟩
 | .nilf,_,h=>⟨rfl,h⟩
 | .fn _ _,_,h=>⟨rfl,h⟩
 | .con _,_,h=>⟨rfl,h⟩
theorem SV.nmL_ok {ρ:Env} {k:Nat} (b:Bd) {N:Nat->Prop}:(l:List SV)->jx ρ (SV.nmcL k l)->SV.okL ρ N l->SV.denL ρ b (SV.nmL k l)=SV.denL ρ b l/\SV.okL ρ N (SV.nmL k l)
 |[],_,_=>⟨rfl,trivial⟩
 |a::l,hv,h=>by
  rw[SV.nmcL,qz]at hv
  have h1:=SV.nm_ok b a hv.1 h.1
  have h2:=SV.nmL_ok b l hv.2 h.2
  exact⟨by simp only[SV.nmL,SV.denL,h1.1,h2.1],h1.2,h2.2⟩
end
theorem J1 {ρ:Env} {α:Type} {f:α->List VC} {l:List α} (h:jx ρ (l.flatMap f)) {x:α} (hx:x∈l):jx ρ (f x):=
 fun v hv=>h v (List.mem_flatMap.2 ⟨x,hx,hv⟩)
theorem gf {α:Type} (f:α->α) {L:List (Nat × α)} {n:Nat} {e:α} (h:zB (L.map fun x=>(x.1,f x.2)) n=some e):∃e',zB L n=some e'/\(n,e')∈L/\e=f e':=by
 rw[ww f]at h
 rw[Option.map_eq_some_iff]at h
 obtain⟨e',h1,rfl⟩:=h
 exact⟨e',h1,zG h1,rfl⟩
def J2 (k:Nat) (H:List (Nat × HEnt)):List (Nat × HEnt):=H.map fun x=>(x.1,{x.2 with blk:= {x.2.blk with cells:=SV.nmL k x.2.blk.cells}})
def mh (k:Nat) (H:List (Nat × HEnt)):List VC:=H.flatMap fun x=>SV.nmcL k x.2.blk.cells
theorem HRel.nm {ρ:Env} {k:Nat} {b:Bd} {base:Nat->Prop} {w:World} {H:List (Nat × HEnt)} {N:Nat->Prop} (hv:jx ρ (mh k H)) (h:HRel ρ b base w H N):HRel ρ b base w (J2 k H) N where
 mem:=fun n e hf hg=>by
  obtain⟨e',hf',hm,rfl⟩:=gf (fun x:HEnt=> {x with blk:= {x.blk with cells:=SV.nmL k x.blk.cells}}) hf
  obtain⟨h1,h2,h3⟩:=h.mem n e' hf' hg
  have:=SV.nmL_ok b _ (J1 hv hm) h3
  exact⟨h1,h2.cells this.1,this.2⟩
 inj:=fun n m e j hf hk hg hgk ho hok heq=>by
  obtain⟨e',hf',hm,rfl⟩:=gf (fun x:HEnt=> {x with blk:= {x.blk with cells:=SV.nmL k x.blk.cells}}) hf
  obtain⟨k',hk',hm',rfl⟩:=gf (fun x:HEnt=> {x with blk:= {x.blk with cells:=SV.nmL k x.blk.cells}}) hk
  exact h.inj n m e' k' hf' hk' hg hgk ho hok heq
def St.nm (k:Nat) (S:St):St:= {S with tmps:=S.tmps.map fun x=>(x.1,{x.2 with sv:=x.2.sv.nm k}),heap:=J2 k S.heap}
def St.nmc (k:Nat) (S:St):List VC:=(S.tmps.flatMap fun x=>x.2.sv.nmc k)++mh k S.heap
theorem Rel.nm {ρ:Env} {k:Nat} {b:Bd} {base:Nat->Prop} {w0 w:World} {S:St} {tm:Array Value} (hv:jx ρ (S.nmc k)) (h:Rel ρ b base w0 w S tm):Rel ρ b base w0 w (S.nm k) tm:=by
 rw[St.nmc,qz]at hv
 refine⟨h.heap.nm hv.2,fun i e hf=>?_,h.below,h.base,h.nt,h.kept⟩
 obtain⟨e',hf',hm,rfl⟩:=gf (fun x:Ent=> {x with sv:=x.sv.nm k}) hf
 obtain⟨h1,h2⟩:=h.tmps i e' hf'
 refine⟨fun hg=>?_,h2⟩
 obtain⟨h3,h4⟩:=h1 hg
 have:=SV.nm_ok b _ (J1 hv.1 hm) h4
 exact⟨by rw[this.1];exact h3,this.2⟩
def T.vcs {α:Type} (f:α->List VC):T α->List VC
 | .leaf x=>f x
 | .node _ t u=>T.vcs f t++T.vcs f u
def kr {α:Type} (n:Nat) (k:Nat->α):α:=match n with
 |0=>k 0
 |m+1=>k (m+1)
theorem qY {α:Type} (n:Nat) (k:Nat->α):kr n k=k n:=by cases n<;>rfl
def J3 {α:Type} (z:Int) (k:Int->α):α:=match z with
 | .ofNat n=>kr n fun n=>k (.ofNat n)
 | .negSucc n=>kr n fun n=>k (.negSucc n)
theorem J4 {α:Type} (z:Int) (k:Int->α):J3 z k=k z:=by cases z<;>simp[J3,qY]
def Gy {α:Type} (e:E) (k:E->α):α:=match e with
 | .v n=>kr n fun n=>k (.v n)
 | .bv n=>kr n fun n=>k (.bv n)
 | .c z=>J3 z fun z=>k (.c z)
 | .bc true=>k (.bc true)
 | .bc false=>k (.bc false)
 | .un o a=>k (.un o a)
 | .bin o a b=>k (.bin o a b)
 | .ite d a b=>k (.ite d a b)
 | .ap f a=>k (.ap f a)
 | .nil=>k .nil
 | .cons a b=>k (.cons a b)
theorem J5 {α:Type} (e:E) (k:E->α):Gy e k=k e:=by
 unfold Gy
 split<;>simp[qY,J4]
def R.nmF {β:Type} (k:Nat) (r:R) (c:R->List VC->β):β:=match r with
 |⟨e,lo,hi⟩=>Gy e fun e=>J3 lo fun lo=>J3 hi fun hi=>match e.big k with
  |true=>kr (zal e) fun n=>c ⟨.v n,lo,hi⟩ [⟨[],.bin .eq (.v n) e⟩]
  |false=>c ⟨e,lo,hi⟩ []
theorem R.nmF_eq {β:Type} (k:Nat) (r:R) (c:R->List VC->β):r.nmF k c=c (r.nm k) (r.nmc k):=by
 obtain⟨e,lo,hi⟩:=r
 simp only[R.nmF,R.nm,R.nmc,J5,J4,qY]
 cases h:e.big k<;>simp
def E.nmF {β:Type} (k:Nat) (e:E) (c:E->List VC->β):β:=Gy e fun e=>match e.big k with
 |true=>kr (zal e) fun n=>c (.bv n) [⟨[],.ite (.bv n) e (.un .not e)⟩]
 |false=>c e []
theorem E.nmF_eq {β:Type} (k:Nat) (e:E) (c:E->List VC->β):e.nmF k c=c (e.nm k) (e.nmc k):=by
 simp only[E.nmF,E.nm,E.nmc,J5,qY]
 cases h:e.big k<;>simp
def zam {α:Type} (o:Option Nat) (k:Option Nat->α):α:=match o with
 |some n=>kr n fun n=>k (some n)
 |none=>k none
theorem zan {α:Type} (o:Option Nat) (k:Option Nat->α):zam o k=k o:=by cases o<;>simp[zam,qY]
mutual
def SV.nmF {β:Type} (k:Nat):SV->(SV->List VC->β)->β
 | .int j r,c=>r.nmF k fun r v=>c (.int j r) v
 | .bool e,c=>e.nmF (k+k) fun e v=>c (.bool e) v
 | .err r,c=>r.nmF k fun r v=>c (.err r) v
 | .agg l,c=>SV.nmFL k l fun l v=>c (.agg l) v
 | .tup l,c=>SV.nmFL k l fun l v=>c (.tup l) v
 | .ifc t x,c=>x.nmF k fun x v=>c (.ifc t x) v
 | .ptr n o,c=>kr n fun n=>kr o fun o=>c (.ptr n o) []
 | .sl n o l p,c=>kr n fun n=>kr o fun o=>kr l fun l=>zam p fun p=>c (.sl n o l p) []
 | .slv n o l,c=>c (.slv n o l) []
 | .emp k,c=>c (.emp k) []
 | .osl n s l,c=>c (.osl n s l) []
 | .optr n s i o,c=>kr o fun o=>c (.optr n s i o) []
 | .esl n i,c=>c (.esl n i) []
 | .nilp,c=>c .nilp []
 | .nils,c=>c .nils []
 | .nili,c=>c .nili []
 | .nilf,c=>c .nilf []
 | .fn f l,c=>c (.fn f l) []
 | .con x,c=>c (.con x) []
def SV.nmFL {β:Type} (k:Nat):List SV->(List SV->List VC->β)->β
 |[],c=>c [] []
 |a::l,c=>a.nmF k fun a v=>SV.nmFL k l fun l w=>c (a::l) (v++w)
end
mutual
theorem SV.nmF_eq {β:Type} (k:Nat):(x:SV)->(c:SV->List VC->β)->x.nmF k c=c (x.nm k) (x.nmc k)
 | .int j r,c=>by simp only[SV.nmF,R.nmF_eq,SV.nm,SV.nmc]
 | .bool e,c=>by simp only[SV.nmF,E.nmF_eq,SV.nm,SV.nmc]
 | .err r,c=>by simp only[SV.nmF,R.nmF_eq,SV.nm,SV.nmc]
 | .agg l,c=>by simp only[SV.nmF,SV.nmFL_eq k l,SV.nm,SV.nmc]
 | .tup l,c=>by simp only[SV.nmF,SV.nmFL_eq k l,SV.nm,SV.nmc]
 | .ifc t x,c=>by simp only[SV.nmF,SV.nmF_eq k x,SV.nm,SV.nmc]
 | .ptr n o,c=>by simp only[SV.nmF,qY];rfl
 | .sl n o l p,c=>by simp only[SV.nmF,qY,zan];rfl
 | .slv _ _ _,c=>rfl
 | .emp _,c=>rfl
 | .osl _ _ _,c=>rfl
 | .optr _ _ _ o,c=>by simp only[SV.nmF,qY];rfl
 | .esl _ _,c=>rfl
 | .nilp,c=>rfl
 | .nils,c=>rfl
 | .nili,c=>rfl
 | .nilf,c=>rfl
 | .fn _ _,c=>rfl
 | .con _,c=>rfl
theorem SV.nmFL_eq {β:Type} (k:Nat):(x:List SV)->(c:List SV->List VC->β)->SV.nmFL k x c=c (SV.nmL k x) (SV.nmcL k x)
 |[],c=>rfl
 |a::l,c=>by simp only[SV.nmFL,SV.nmF_eq k a,SV.nmFL_eq k l,SV.nmL,SV.nmcL]
end
def zdx {β:Type} (k:Nat):List (Nat × Ent)->(List (Nat × Ent)->List VC->β)->β
 |[],c=>c [] []
 |(n,⟨g,x⟩)::r,c=>kr n fun n=>x.nmF k fun x v=>zdx k r fun r w=>c ((n,⟨g,x⟩)::r) (v++w)
theorem zdy {β:Type} (k:Nat):∀(l:List (Nat × Ent)) (c:List (Nat × Ent)->List VC->β),zdx k l c=c (l.map fun x=>(x.1,{x.2 with sv:=x.2.sv.nm k})) (l.flatMap fun x=>x.2.sv.nmc k):=by
 intro l
 induction l with
 |nil=>intro c;rfl
 |cons a l ih=>
  obtain⟨n,g,x⟩:=a
  intro c
  simp only[zdx,qY,SV.nmF_eq,ih,List.map_cons,List.flatMap_cons]
def zdz {β:Type} (k:Nat):List (Nat × HEnt)->(List (Nat × HEnt)->List VC->β)->β
 |[],c=>c [] []
 |(n,⟨g,⟨cs,t,kd⟩⟩)::r,c=>kr n fun n=>SV.nmFL k cs fun cs v=>zdz k r fun r w=>c ((n,⟨g,⟨cs,t,kd⟩⟩)::r) (v++w)
theorem zdA {β:Type} (k:Nat):∀(l:List (Nat × HEnt)) (c:List (Nat × HEnt)->List VC->β),zdz k l c=c (J2 k l) (mh k l):=by
 intro l
 induction l with
 |nil=>intro c;rfl
 |cons a l ih=>
  obtain⟨n,g,cs,t,kd⟩:=a
  intro c
  simp only[zdz,qY,SV.nmFL_eq,ih,J2,mh,List.map_cons,List.flatMap_cons]
def St.nmF {β:Type} (k:Nat) (S:St) (c:St->List VC->β):β:=match S with
 |⟨tm,H,nx,nt⟩=>kr nx fun nx=>kr nt fun nt=>zdx k tm fun tm v=>zdz k H fun H w=>c ⟨tm,H,nx,nt⟩ (v++w)
theorem St.nmF_eq {β:Type} (k:Nat) (S:St) (c:St->List VC->β):S.nmF k c=c (S.nm k) (S.nmc k):=by
 obtain⟨tm,H,nx,nt⟩:=S
 simp only[St.nmF,qY,zdy,zdA]
 rfl
def T.map {α β:Type} (f:α->β):T α->T β
 | .leaf x=> .leaf (f x)
 | .node c t u=> .node c (T.map f t) (T.map f u)
theorem T.map_at {α β:Type} (f:α->β) (ρ:Env) (t:T α):(t.map f).at ρ=f (t.at ρ):=by
 induction t with
 |leaf x=>rfl
 |node c t u iht ihu=>simp only[T.map,T.at];split<;>assumption
def T.nmP (big:Nat):T Lf->T Lf × List VC
 | .leaf l=>(.leaf ⟨l.x,l.st.nm big⟩,l.st.nmc big)
 | .node c t u=>(.node c (T.nmP big t).1 (T.nmP big u).1,(T.nmP big t).2++(T.nmP big u).2)
theorem T.nmP_ok {ρ:Env} {big:Nat} {b:Bd} {base:Nat->Prop} {w0 w:World} {tm:Array Value}:∀(t:T Lf),jx ρ (T.nmP big t).2->Rel ρ b base w0 w (t.at ρ).st tm->(((T.nmP big t).1).at ρ).x=(t.at ρ).x/\Rel ρ b base w0 w (((T.nmP big t).1).at ρ).st tm/\(((T.nmP big t).1).at ρ).st.next=(t.at ρ).st.next:=by
 intro t
 induction t with
 |leaf l=>exact fun hv h=>⟨rfl,h.nm hv,rfl⟩
 |node c t u iht ihu=>
  intro hv h
  rw[T.nmP,qz]at hv
  simp only[T.nmP,T.at]at h ⊢
  by_cases hc:c.b ρ=true
  ·simp only[hc,if_true]at h ⊢;exact iht hv.1 h
  ·simp only[hc]at h ⊢;exact ihu hv.2 h
def T.nmF {β:Type} (big:Nat):T Lf->(T Lf->List VC->β)->β
 | .leaf ⟨x,S⟩,c=>S.nmF big fun S v=>c (.leaf ⟨x,S⟩) v
 | .node d t u,c=>T.nmF big t fun t v=>T.nmF big u fun u w=>c (.node d t u) (v++w)
theorem T.nmF_eq {β:Type} (big:Nat):∀(t:T Lf) (c:T Lf->List VC->β),t.nmF big c=c (T.nmP big t).1 (T.nmP big t).2:=by
 intro t
 induction t with
 |leaf l=>obtain⟨x,S⟩:=l;intro c;simp only[T.nmF,St.nmF_eq,T.nmP]
 |node d t u iht ihu=>intro c;simp only[T.nmF,iht,ihu,T.nmP]
def T.cnt {α:Type}:T α->Nat
 | .leaf _=>1
 | .node _ t u=>T.cnt t+T.cnt u
def T.nrm (et:TypeId) (k:Bool) (big n0:Nat) (t:T Lf) (v:List VC):T Lf × List VC:=
 match t with
 | .leaf l=>(.leaf l,v)
 | .node c x y=>
   if Nat.ble (T.cnt (.node c x y)) (T.cnt (T.norm et k n0 (.node c x y)))then(T.norm et k n0 (.node c x y),v)
   else T.nmF big (T.norm et k n0 (.node c x y)) fun t' v'=>(t',v++v')
theorem T.nrm_ok {et:TypeId} {ρ:Env} (he:ρ.et=et) {k:Bool} {big n0:Nat} {t:T Lf} {v:List VC} (hv:jx ρ (T.nrm et k big n0 t v).2):
  jx ρ v/\∀ {b:Bd} {base:Nat->Prop} {w0 w:World} {tm:Array Value},Rel ρ b base w0 w (t.at ρ).st tm->((T.nrm et k big n0 t v).1.at ρ).x=(t.at ρ).x/\Rel ρ b base w0 w ((T.nrm et k big n0 t v).1.at ρ).st tm/\(t.at ρ).st.next<=((T.nrm et k big n0 t v).1.at ρ).st.next:=by
 cases t with
 |leaf l=>exact⟨hv,fun h=>⟨rfl,h,Nat.le_refl _⟩⟩
 |node c x y=>
  simp only[T.nrm]at hv ⊢
  split at hv
  ·rename_i hc
   simp only[hc,if_true]
   exact⟨hv,fun h=>T.norm_ok he (k:=k) (n0:=n0) _ h⟩
  ·rename_i hc
   simp only[hc,Bool.false_eq_true,if_false]
   rw[T.nmF_eq]at hv ⊢
   simp only[qz]at hv
   refine⟨hv.1,fun h=>?_⟩
   obtain⟨n1,n2,n3⟩:=T.norm_ok he (k:=k) (n0:=n0) _ h
   obtain⟨m1,m2,m3⟩:=T.nmP_ok _ hv.2 n2
   exact⟨m1.trans n1,m2,by rw[m3];exact n3⟩
theorem yU {et:TypeId} {k:Bool} {big n0:Nat} {t r:T Lf} {v vs:List VC} (h:some (T.nrm et k big n0 t v)=some (r,vs)):r=(T.nrm et k big n0 t v).1/\vs=(T.nrm et k big n0 t v).2:=by
 have:=Option.some.inj h
 rw[this]
 exact⟨rfl,rfl⟩
def ziK:Nat:=12
def SV.nmS {β:Type} (k:Nat) (x:SV) (c:SV->List VC->β):β:=match x with
 | .int j r=>r.nmF k fun r v=>c (.int j r) v
 | .bool e=>e.nmF (k+k) fun e v=>c (.bool e) v
 | .err r=>r.nmF k fun r v=>c (.err r) v
 |x=>c x []
def SV.sc (k:Nat) (x:SV):SV:=match x with
 | .int j r=> .int j (r.nm k)
 | .bool e=> .bool (e.nm (k+k))
 | .err r=> .err (r.nm k)
 |x=>x
def SV.scc (k:Nat) (x:SV):List VC:=match x with
 | .int _ r=>r.nmc k
 | .bool e=>e.nmc (k+k)
 | .err r=>r.nmc k
 |_=>[]
theorem SV.nmS_eq {β:Type} (k:Nat) (x:SV) (c:SV->List VC->β):x.nmS k c=c (x.sc k) (x.scc k):=by
 cases x<;>simp only[SV.nmS,SV.sc,SV.scc,R.nmF_eq,E.nmF_eq]
theorem SV.sc_ok {ρ:Env} {k:Nat} (b:Bd) {N:Nat->Prop} {v:SV} (h:jx ρ (v.scc k)) (hr:v.ok ρ N):(v.sc k).den ρ b=v.den ρ b/\(v.sc k).ok ρ N:=by
 cases v with
 |int j r=>exact⟨by simp only[SV.sc,SV.den,(R.nm_i h).1],R.nm_ok h hr⟩
 |bool e=>exact⟨by simp only[SV.sc,SV.den,E.nm_b h],trivial⟩
 |err r=>exact⟨by simp only[SV.sc,SV.den,(R.nm_i h).1],R.nm_ok h hr⟩
 |_=>exact⟨rfl,hr⟩
end Go.Proofs.YtoakpnoajmngmaaGreatDoor.Sx
namespace Go.Proofs.YtoakpnoajmngmaaGreatDoor.Sx
open Go.RowKit (Below)
structure CR where
 v:SV
 heap:List (Nat × HEnt)
 next:Nat
 deriving Inhabited
abbrev zl:=List E->FuncId->List SV->List (Nat × HEnt)->Nat->Option (T CR × List VC)
def HOK (P:Program) (ρ:Env) (h:zl):Prop:=
 ∀pc f args H nx r vs,h pc f args H nx=some (r,vs)->qq ρ pc->jx ρ vs->
  ∀b base w0 w,HRel ρ b base w H (· <nx)->Mem ρ base w0->Kept base w0 w->(∀k,base k->k<w.heap.size)->SV.okL ρ (· <nx) args->
   Calls P f (SV.denL ρ b args).toArray w fun e w'=>∃b',e= .returned ((r.at ρ).v.den ρ b')/\zM b b' (· <nx)/\HRel ρ b' base w' (r.at ρ).heap (· <(r.at ρ).next)/\(r.at ρ).v.ok ρ (· <(r.at ρ).next)/\Kept base w0 w'/\(∀k,base k->k<w'.heap.size)/\nx<=(r.at ρ).next
def ju {α:Type} (f:Nat->α->Option α) (L:List (Nat × α)):List (Nat × α)->List (Nat × α)
 |[]=>[]
 |(n,_)::r=>match(zB L n).bind (f n)with
  |some e=>(n,e)::ju f L r
  |none=>ju f L r
theorem qP {α:Type} {f:Nat->α->Option α} {L:List (Nat × α)}:∀ {l:List (Nat × α)} {n:Nat} {e:α},(n,e)∈ju f L l->∃x,zB L n=some x/\f n x=some e:=by
 intro l
 induction l with
 |nil=>intro n e h;cases h
 |cons a l ih=>
  obtain⟨m,y⟩:=a
  intro n e h
  simp only[ju]at h
  split at h
  ·rename_i x hx
   cases h with
   |head=>
    rw[Option.bind_eq_some_iff]at hx
    exact hx
   |tail _ h=>exact ih h
  ·exact ih h
theorem HRel.partF {ρ:Env} {b:Bd} {base:Nat->Prop} {w:World} {H H':List (Nat × HEnt)} {N:Nat->Prop} (h:HRel ρ b base w H N) (hp:∀n e,zB H' n=some e->qq ρ e.g->∃x,zB H n=some x/\x.blk=e.blk/\qq ρ x.g):HRel ρ b base w H' N where
 mem:=fun n e hf hg=>by
  obtain⟨x,h1,h2,h3⟩:=hp n e hf hg
  rw[<-h2]
  exact h.mem n x h1 h3
 inj:=fun n m e k hf hk hg hgk ho hok heq=>by
  obtain⟨x,h1,h2,h3⟩:=hp n e hf hg
  obtain⟨y,k1,k2,k3⟩:=hp m k hk hgk
  exact h.inj n m x y h1 k1 h3 k3 (by rw[h2];exact ho) (by rw[k2];exact hok) heq
theorem HRel.part {ρ:Env} {b:Bd} {base:Nat->Prop} {w:World} {H H':List (Nat × HEnt)} {N:Nat->Prop} (h:HRel ρ b base w H N) (hp:∀n e,(n,e)∈H'->∃x,zB H n=some x/\x.blk=e.blk/\(qq ρ e.g->qq ρ x.g)):HRel ρ b base w H' N:=
 h.partF fun n e hf hg=>by
  obtain⟨x,h1,h2,h3⟩:=hp n e (zG hf)
  exact⟨x,h1,h2,h3 hg⟩
def zhW (H:List (Nat × HEnt)):List (Nat × HEnt):=ju (fun _ e=>if e.g.isEmpty then some e else none) H H
theorem HRel.vis {ρ:Env} {b:Bd} {base:Nat->Prop} {w:World} {H:List (Nat × HEnt)} {N:Nat->Prop} (h:HRel ρ b base w H N):HRel ρ b base w (zhW H) N:=
 h.part fun n e hm=>by
  obtain⟨x,h1,h2⟩:=qP hm
  split at h2
  ·cases h2;exact⟨_,h1,rfl,id⟩
  ·cases h2
def zqa (G:List E) (H:List (Nat × HEnt)):List (Nat × HEnt):=ju (fun _ e=>if sub e.g G then some ⟨[],{e.blk with kind:= .far}⟩else none) H H
theorem HRel.far {ρ:Env} {b:Bd} {base:Nat->Prop} {w:World} {H:List (Nat × HEnt)} {N:Nat->Prop} {G:List E} (h:HRel ρ b base w H N) (hG:qq ρ G) (hb:(∀k,base k->k<w.heap.size)):HRel ρ b (· <w.heap.size) w (zqa G H) N where
 mem:=fun n e hf hg=>by
  obtain⟨x,h1,h2⟩:=qP (zG hf)
  split at h2
  ·rename_i hs
   cases h2
   obtain⟨m1,m2,m3⟩:=h.mem n x h1 (sub_ok hs hG)
   refine⟨m1,⟨m2.lt hb,fun i v hi=>m2.cell hi⟩,m3⟩
  ·cases h2
 inj:=fun n m e k hf hk hg hgk ho hok heq=>by
  obtain⟨x,h1,h2⟩:=qP (zG hf)
  split at h2
  ·cases h2;cases ho
  ·cases h2
mutual
def SV.names:SV->List Nat
 | .ptr n _=>[n]
 | .sl n _ _ _=>[n]
 | .slv n _ _=>[n]
 | .ifc _ v=>v.names
 | .fn _ l=>SV.namesL l
 | .agg l=>SV.namesL l
 | .tup l=>SV.namesL l
 |_=>[]
def SV.namesL:List SV->List Nat
 |[]=>[]
 |a::l=>a.names++SV.namesL l
end
def Yw (H:List (Nat × HEnt)):Nat->List Nat->List Nat->List Nat
 |0,_,seen=>seen
 |_+1,[],seen=>seen
 |k+1,n::todo,seen=>
  if seen.contains n then Yw H k todo seen
  else match zB H n with
   |some e=>Yw H k (SV.namesL e.blk.cells++todo) (n::seen)
   |none=>Yw H k todo seen
def zao {α:Type} (p:Nat->Bool):List (Nat × α)->List (Nat × α)
 |[]=>[]
 |(n,e)::r=>if p n then(n,e)::zao p r else zao p r
theorem yx {α:Type} (p:Nat->Bool) (L:List (Nat × α)) (n:Nat):zB (zao p L) n=if p n=true then zB L n else none:=by
 induction L with
 |nil=>simp[zao,zB]
 |cons a r ih=>
  obtain⟨m,e⟩:=a
  simp only[zao]
  split
  ·rename_i hp
   simp only[zB,ih]
   split
   ·rename_i hm;subst hm;simp[hp]
   ·rfl
  ·rename_i hp
   simp only[zB,ih]
   by_cases hm:m=n
   ·subst hm;simp[hp]
   ·simp[hm]
def visF (H:List (Nat × HEnt)):List (Nat × HEnt):=if H.all (fun x=>x.2.g.isEmpty)then H else zhW H
theorem HRel.visF {ρ:Env} {b:Bd} {base:Nat->Prop} {w:World} {H:List (Nat × HEnt)} {N:Nat->Prop} (h:HRel ρ b base w H N):HRel ρ b base w (visF H) N:=by
 unfold Sx.visF
 split
 ·exact h
 ·exact h.vis
def Yx (H:List (Nat × HEnt)) (l:List SV):Nat->Bool:=match SV.namesL l with
 |[]=>fun _=>false
 |ns=>match Yw H 1000 ns []with
  |ks=>fun n=>ks.any (Nat.beq n)
def FrP (ρ:Env) (b:Bd) (base:Nat->Prop) (w:World) (V:List (Nat × HEnt)) (p:Nat->Bool):Nat->Prop:=fun k=>base k\/(k<w.heap.size/\∀n e,zB V n=some e->p n=true->qq ρ e.g->e.blk.own=true->b.β n≠k)
theorem Blk.ok.turn {ρ:Env} {b:Bd} {F G:Nat->Prop} {w:World} {n:Nat} {B:Blk} (h:B.ok ρ b F w n) (h1:B.own=true->¬G (b.β n)) (h2:B.own=false->G (b.β n)):B.ok ρ b G w n:=by
 unfold Blk.ok at h ⊢
 unfold Blk.own at h1 h2
 split at h
 ·rename_i hk
  rw[hk]at h1
  exact⟨h.1,h1 rfl,h.2.2⟩
 ·rename_i hk
  rw[hk]at h1
  exact⟨h.1,h1 rfl,h.2.2⟩
 ·rename_i hk
  rw[hk]at h2
  exact⟨h2 rfl,h.2⟩
 ·rename_i hk
  rw[hk]at h1
  exact⟨h.1,h1 rfl,h.2.2⟩
theorem Blk.ok.farBase {ρ:Env} {b:Bd} {F:Nat->Prop} {w:World} {n:Nat} {B:Blk} (h:B.ok ρ b F w n) (ho:B.own=false):F (b.β n):=by
 unfold Blk.ok at h
 unfold Blk.own at ho
 split at h
 ·simp_all
 ·simp_all
 ·exact h.1
 ·simp_all
theorem HRel.split {ρ:Env} {b:Bd} {base:Nat->Prop} {w:World} {V:List (Nat × HEnt)} {N:Nat->Prop} (h:HRel ρ b base w V N) (p:Nat->Bool):HRel ρ b (FrP ρ b base w V p) w (zao p V) N where
 mem:=fun n e hf hg=>by
  rw[yx]at hf
  split at hf
  ·rename_i hp
   obtain⟨m1,m2,m3⟩:=h.mem n e hf hg
   refine⟨m1,m2.turn (fun ho hF=>?_) (fun ho=> .inl (m2.farBase ho)),m3⟩
   rcases hF with hF|hF
   ·exact(m2.base ho).1 hF
   ·exact hF.2 n e hf hp hg ho rfl
  ·cases hf
 inj:=fun n m e k hf hk hg hgk ho hok heq=>by
  rw[yx]at hf hk
  split at hf
  ·split at hk
   ·exact h.inj n m e k hf hk hg hgk ho hok heq
   ·cases hk
  ·cases hf
theorem Gz {α:Type} (l m:List (Nat × α)) (n:Nat):zB (l++m) n=match zB l n with|some x=>some x|none=>zB m n:=by
 induction l with
 |nil=>rfl
 |cons a l ih=>
  simp only[List.cons_append,zB]
  split
  ·rfl
  ·exact ih
def zap (H' V:List (Nat × HEnt)) (p:Nat->Bool):List (Nat × HEnt):=
 ju (fun _ e=>if e.blk.own then some e else none) H' H'++zao (fun n=> !(p n)||(match zB V n with|some e=> !e.blk.own|none=>false)) V
theorem HRel.join {ρ:Env} {b b':Bd} {base:Nat->Prop} {w w':World} {V H':List (Nat × HEnt)} {N M:Nat->Prop} {p:Nat->Bool} (h:HRel ρ b base w V N) (hbase:∀k,base k->k<w.heap.size) (hb:zM b b' N) (hN:∀n,N n->M n) (hk:Kept (FrP ρ b base w V p) w w') (h':HRel ρ b' (FrP ρ b base w V p) w' H' M):
  HRel ρ b' base w' (zap H' V p) M:=by
 have hfr:∀n e,zB V n=some e->(p n=false\/e.blk.own=false)->qq ρ e.g->FrP ρ b base w V p (b.β n):=by
  intro n e hf hp hg
  obtain⟨m1,m2,m3⟩:=h.mem n e hf hg
  rcases ho:e.blk.own with _|_
  ·exact .inl (m2.farBase ho)
  ·have hp:p n=false:=by
    rcases hp with hp|hp
    ·exact hp
    ·rw[ho]at hp;cases hp
   refine .inr ⟨m2.lt hbase,fun m k hkf hkp hkg hko heq=>?_⟩
   have:=h.inj m n k e hkf hf hkg hg hko ho heq
   subst this
   rw[hp]at hkp;cases hkp
 have key:∀n e,zB (zap H' V p) n=some e->(zB H' n=some e/\e.blk.own=true)\/(zB V n=some e/\(p n=false\/e.blk.own=false)):=by
  intro n e hf
  unfold zap at hf
  rw[Gz]at hf
  split at hf
  ·rename_i x hx
   cases hf
   obtain⟨y,h1,h2⟩:=qP (zG hx)
   split at h2
   ·rename_i ho;cases h2;exact .inl ⟨h1,ho⟩
   ·cases h2
  ·rw[yx]at hf
   by_cases hp:(!(p n)||(match zB V n with|some e=> !e.blk.own|none=>false))=true
   ·rw[if_pos hp]at hf
    rw[hf]at hp
    exact .inr ⟨hf,by simpa using hp⟩
   ·rw[if_neg hp]at hf
    cases hf
 constructor
 ·intro n e hf hg
  rcases key n e hf with⟨h1,h2⟩|⟨h1,h2⟩
  ·obtain⟨m1,m2,m3⟩:=h'.mem n e h1 hg
   exact⟨m1,m2.turn (fun ho hc=>(m2.base ho).1 (.inl hc)) (fun ho=>by rw[h2]at ho;cases ho),m3⟩
  ·obtain⟨m1,m2,m3⟩:=h.mem n e h1 hg
   exact⟨hN n m1,m2.keep m1 m3 hb (hk.block _ (hfr n e h1 h2 hg)),SV.okL_mono hN _ m3⟩
 ·intro n m e k hf hkf hg hgk ho hok heq
  rcases key n e hf with⟨h1,h2⟩|⟨h1,h2⟩
  ·rcases key m k hkf with⟨k1,k2⟩|⟨k1,k2⟩
   ·exact h'.inj n m e k h1 k1 hg hgk ho hok heq
   ·exfalso
    have e1:=((h'.mem n e h1 hg).2.1.base ho).1
    rw[heq,(hb m (h.mem m k k1 hgk).1).1]at e1
    exact e1 (hfr m k k1 k2 hgk)
  ·rcases key m k hkf with⟨k1,k2⟩|⟨k1,k2⟩
   ·exfalso
    have e1:=((h'.mem m k k1 hgk).2.1.base hok).1
    rw[<-heq,(hb n (h.mem n e h1 hg).1).1]at e1
    exact e1 (hfr n e h1 h2 hg)
   ·rw[(hb n (h.mem n e h1 hg).1).1,(hb m (h.mem m k k1 hgk).1).1]at heq
    exact h.inj n m e k h1 k1 hg hgk ho hok heq
def wx (P:Program) (k:FuncId):Bool:=
 match P.funcs[k]? with
 |some fn=> !(fn.name== "runtime.NumGoroutine")&&fn.body.isSome
 |none=>false
theorem run_callFunc {P:Program} {k:FuncId} (h:wx P k=true) (args:Array Value) (w:World):(callFunc k args).run P w= .ok (.enter k args) w:=by
 unfold wx at h
 cases hf:P.funcs[k]? with
 |none=>rw[hf]at h;cases h
 |some fn=>
  rw[hf]at h
  simp only[Bool.and_eq_true,Bool.not_eq_true']at h
  obtain⟨h1,h2⟩:=h
  have h3:¬fn.body=none:=by intro hb;rw[hb]at h2;cases h2
  have h4:¬fn.name= "runtime.NumGoroutine" :=by simpa using h1
  simp[callFunc,hf,h3,h4]
def Yy (P:Program) (t:TypeId) (name:String):Option FuncId:=
 match P.info? t,P.underlying t with
 |some i,some d=>
  match i.methods.find? (·.name==name)with
  |some m=>if m.path.isEmpty then
    match m.func,d with
    |some (f,true),.pointer _=>some f
    |some (_,false),.pointer _=>none
    |some (f,false),_=>some f
    |_,_=>none
   else none
  |none=>none
 |_,_=>none
theorem run_method {P:Program} {t:TypeId} {name:String} {f:FuncId} (h:Yy P t name=some f) (n:Nat) (v:Value) (w:World):(method (n+1) t v name).run P w= .ok (f,v) w:=by
 unfold Yy at h
 split at h
 ·rename_i i d hi hu
  split at h
  ·rename_i m hm
   split at h
   ·rename_i hp
    have hp':m.path.toList=[]:=by simpa using hp
    have hty:(typeInfo t).run P w= .ok i w:=by simp[typeInfo,hi]
    split at h
    ·cases h
     have hf:= ‹m.func=some (_,true)›
     simp only[method,Sem.run_bind,hty,Result.andThen,hm,hp',follow,Sem.run_pure,hf,receiverAt,run_underlying hu,Place.get]
    ·cases h
    ·cases h
     have hf:= ‹m.func=some (_,false)›
     obtain⟨dd,hu2,hne⟩:∃dd,P.underlying t=some dd/\∀e,dd= .pointer e->False:=⟨_,hu,by assumption⟩
     cases dd<;>first
      |exact(hne _ rfl).elim
      |simp only[method,Sem.run_bind,hty,Result.andThen,hm,hp',follow,Sem.run_pure,hf,receiverAt,run_underlying hu2,Place.get]
    ·cases h
   ·cases h
  ·cases h
 ·cases h
def yV (P:Program) (G:List E) (S:St) (o:Oper):Option (FuncId × List SV):=
 match o.op with
 | .call {callee:= .value f,args:=args,argTypes:=_}=>
   match ev G S f,evs G S args.toList with
   |some (.fn k caps),some l=>if wx P k then some (k,l++caps)else none
   |_,_=>none
 | .call {callee:= .invoke r name,args:=args,argTypes:=_}=>
   match ev G S r,evs G S args.toList with
   |some (.ifc t v),some l=>match Yy P t name with
    |some k=>if wx P k then some (k,v::l)else none
    |none=>none
   |_,_=>none
 |_=>none
theorem zhX {ρ:Env} {N:Nat->Prop} {l m:List SV} (h:SV.okL ρ N l) (k:SV.okL ρ N m):SV.okL ρ N (l++m):=
 (qo _ _ _).2 fun x hx=>(List.mem_append.1 hx).elim ((qo _ _ _).1 h x) ((qo _ _ _).1 k x)
theorem gh {P:Program} {G:List E} {S:St} {o:Oper} {k:FuncId} {l:List SV} (hc:yV P G S o=some (k,l)) {ρ:Env} {b:Bd} {base:Nat->Prop} {w0 w:World} {a:Act} (h:Rel ρ b base w0 w S a.tmps) (hG:qq ρ G):
  (execOp a.eval o).run P w= .ok (.enter k (SV.denL ρ b l).toArray) w/\SV.okL ρ (· <S.next) l:=by
 unfold yV at hc
 split at hc
 ·rename_i f args ts hop
  split at hc
  ·rename_i k' caps l' hf hl
   split at hc
   ·rename_i hcb
    cases hc
    have e1:=qf h hG hf
    have e2:=JS h hG hl
    refine⟨?_,zhX e2.2 e1.2⟩
    have ha:args.map a.eval=(SV.denL ρ b l').toArray:=by apply Array.ext';simpa using e2.1
    have hd:(SV.denL ρ b l').toArray++(SV.denL ρ b caps).toArray=(SV.denL ρ b (l'++caps)).toArray:=by simp[zW]
    have hx:a.eval f= .func (.func k) #[] (SV.denL ρ b caps).toArray:=e1.1
    simp only[execOp,hop,resolve,Deferred.ofValue,hx,ha,invoke,Sem.run_bind,Sem.run_pure,Result.andThen,Array.empty_append,hd,run_callFunc hcb]
   ·cases hc
  ·cases hc
 ·rename_i r name args ts hop
  split at hc
  ·rename_i t v l' hr hl
   split at hc
   ·rename_i k' hm
    split at hc
    ·rename_i hcb
     cases hc
     have e1:=qf h hG hr
     have e2:=JS h hG hl
     refine⟨?_,e1.2,e2.2⟩
     have ha:args.map a.eval=(SV.denL ρ b l').toArray:=by apply Array.ext';simpa using e2.1
     have hx:a.eval r= .iface t (v.den ρ b):=e1.1
     obtain⟨n,hn⟩:∃n,P.types.size+Made.depth=n+1:=⟨P.types.size+Made.depth-1,by unfold Made.depth;omega⟩
     have hmr:=run_method hm n (v.den ρ b) w
     simp[execOp,hop,resolve,hx,ha,invoke,callMethod,hn,hmr,run_callFunc hcb,SV.denL]
    ·cases hc
   ·cases hc
  ·cases hc
 ·cases hc
end Go.Proofs.YtoakpnoajmngmaaGreatDoor.Sx
namespace Go.Proofs.YtoakpnoajmngmaaGreatDoor.Sx
open Go.RowKit (Below)
def QL (ops:Array Oper) (S:St) (o:Oper):Option (Option (List E)):=
 match o.guard with
 |none=>some (some [])
 |some (j,want)=>
  match((ops[j]?).bind (·.dst)).bind (zB S.tmps)with
  |some ⟨g,.bool e⟩=>
   match e with
   | .bc b=>if b=want then some (some g)else some none
   |e=>some (some ((if want then e else jz e)::g))
  |_=>none
theorem Zv {ops:Array Oper} {S:St} {o:Oper} {ρ:Env} {b:Bd} {base:Nat->Prop} {w0 w:World} {tm:Array Value} (h:Rel ρ b base w0 w S tm) {r:Option (List E)} (hg:QL ops S o=some r):
  match r with
  |some G=>Region.wanted o (yielded ops tm)=true↔qq ρ G
  |none=>Region.wanted o (yielded ops tm)=false:=by
 unfold QL at hg
 unfold Region.wanted
 split at hg
 ·rename_i hn
  cases hg
  simp[hn,zq]
 ·rename_i j want hn
  rw[hn]
  split at hg
  ·rename_i g e hf
   rw[Option.bind_eq_some_iff]at hf
   obtain⟨d,hd,hf⟩:=hf
   obtain⟨h1,h2⟩:=h.tmps d _ hf
   have hy1:qq ρ g->yielded ops tm j=some (e.b ρ):=by
    intro hg'
    unfold yielded
    rw[hd]
    simp only[Option.bind_some,(h1 hg').1,SV.den]
   have hy2:¬qq ρ g->yielded ops tm j=none:=by
    intro hg'
    unfold yielded
    rw[hd]
    simp only[Option.bind_some,h2 hg',undef]
   split at hg
   ·rename_i b'
    split at hg
    ·rename_i hb
     cases hg
     by_cases hg':qq ρ g
     ·simp[hy1 hg',hg',E.b,hb]
     ·simp[hy2 hg',hg']
    ·rename_i hb
     cases hg
     by_cases hg':qq ρ g
     ·simp[hy1 hg',E.b,hb]
     ·simp[hy2 hg']
   ·cases hg
    have key:(if want=true then e else jz e).b ρ=true↔e.b ρ=want:=by
     cases want<;>simp[q7]
    by_cases hg':qq ρ g
    ·simp only[hy1 hg',beq_iff_eq,Option.some.injEq]
     rw[<-key]
     exact⟨fun hk=>jR hk hg',fun hk=>hk _ (.head _)⟩
    ·simp only[hy2 hg']
     constructor
     ·intro hc;simp at hc
     ·intro hk;exact absurd (fun x hx=>hk x (.tail _ hx)) hg'
  ·cases hg
def St.setT (S:St) (dst:Option Tmp) (e:Ent):St:=
 match dst with
 |some d=> {S with tmps:=push S.tmps d e}
 |none=>S
theorem Rel.put {ρ:Env} {b:Bd} {base:Nat->Prop} {w0 w:World} {S:St} {a:Act} (h:Rel ρ b base w0 w S a.tmps) {dst:Option Tmp} (hd:∀d,dst=some d->d<S.nt) {e:Ent} {val:Value} (h1:qq ρ e.g->val=e.sv.den ρ b/\e.sv.ok ρ (· <S.next)) (h2:¬qq ρ e.g->val=undef):
  Rel ρ b base w0 w (S.setT dst e) (a.put dst val).tmps:=by
 cases dst with
 |none=>exact h
 |some d=>
  have hlt:=hd d rfl
  refine⟨h.heap,fun i x hf=>?_,h.below,h.base,by simp[Act.put];exact h.nt,h.kept⟩
  simp only[St.setT]at hf
  rw[qF]at hf
  simp only[Act.put]
  split at hf
  ·rename_i hi
   subst hi
   cases hf
   have hs:d<a.tmps.size:=by rw[h.nt];exact hlt
   refine⟨fun hg=>?_,fun hg=>?_⟩
   ·obtain⟨e1,e2⟩:=h1 hg
    exact⟨by rw[Array.getElem?_setIfInBounds_self,if_pos hs,e1],e2⟩
   ·rw[Array.getElem?_setIfInBounds_self,if_pos hs,h2 hg]
  ·rename_i hi
   have:=h.tmps i x hf
   unfold Ent.at at this ⊢
   rw[Array.getElem?_setIfInBounds_ne hi]
   exact this
def zhY (S:St) (o:Oper):Bool:=
 match o.dst with
 |some d=>decide (d<S.nt)
 |none=>true
theorem zdB {S:St} {o:Oper} (h:zhY S o=true):∀d,o.dst=some d->d<S.nt:=by
 intro d hd
 unfold zhY at h
 rw[hd]at h
 simpa using h
def St.newG (S:St) (G:List E) (cells:List SV) (elem:TypeId):St:= {S with heap:=push S.heap S.next ⟨G,⟨cells,elem,.full⟩⟩,next:=S.next+1}
def mi (G:List E) (nx:Nat) (H:List (Nat × HEnt)):List (Nat × HEnt):=ju (fun n e=>if decide (nx<=n)&&e.g.isEmpty&&e.blk.own then some ⟨G,e.blk⟩else none) H H
def zfl (h:zl) (pc:List E) (S:St) (dst:Option Tmp) (k:FuncId) (l:List SV) (V:List (Nat × HEnt)):Option (T St × List VC):=
 match h pc k l (zao (Yx V l) V) S.next with
 |some (r,vs)=>some (r.map fun c=>({S with heap:=zap c.heap V (Yx V l),next:=c.next}:St).setT dst ⟨[],c.v⟩,vs)
 |none=>none
def E.impl:E->E->Bool
 | .bin .and a b,e=>a.impl e||b.impl e||(E.bin .and a b).same e
 |d,e=>d.same e
theorem E.impl_ok {ρ:Env}:∀ {d e:E},d.impl e=true->d.b ρ=true->e.b ρ=true:=by
 intro d
 induction d with
 |bin o a b iha ihb=>
  intro e h hd
  cases o with
  |and=>
   simp only[E.impl,Bool.or_eq_true]at h
   have hd':=hd
   simp only[E.b,Bool.and_eq_true]at hd'
   rcases h with(h|h)|h
   ·exact iha h hd'.1
   ·exact ihb h hd'.2
   ·rw[<-E.same_eq h];exact hd
  |_=>simp only[E.impl]at h;rw[<-E.same_eq h];exact hd
 |_=>intro e h hd;simp only[E.impl]at h;rw[<-E.same_eq h];exact hd
def opI (P:Program) (pc G:List E) (S:St) (o:Oper):Option (SV × List VC):=
 match o.op with
 | .indexAddr t x i=>match ev G S x,ev G S i,P.underlying t with
   |some (.osl k sh len),some (.int _ j),some (.slice e)=>
    match sh,yu P e with
    |c::l,some n=>if n=l.length+1 then
      some (.optr k (c::l) j 0,(if G.any (fun x=>x.impl (zhA j.e len.e))||pc.any (fun x=>x.impl (zhA j.e len.e))then[]else[⟨G++pc,zhA j.e len.e⟩])++(if 0<=j.lo then[]else[⟨G++pc,.bin .le (.c 0) j.e⟩]))
     else none
    |_,_=>none
   |_,_,_=>none
 |_=>none
theorem zmx {P:Program} {pc G:List E} {S:St} {o:Oper} {v:SV} {vs:List VC} (ho:opI P pc G S o=some (v,vs)) {ρ:Env} {b:Bd} {base:Nat->Prop} {w0 w:World} {a:Act} (h:Rel ρ b base w0 w S a.tmps) (hG:qq ρ G) (hpc:qq ρ pc) (hv:jx ρ vs):
  (execOp a.eval o).run P w= .ok (.value (v.den ρ b)) w/\v.ok ρ (· <S.next):=by
 unfold opI at ho
 split at ho
 ·rename_i t x i hop
  split at ho
  ·rename_i k sh len kd j e hx hi hu
   split at ho
   ·rename_i c l n hs
    split at ho
    ·rename_i hn
     cases ho
     rw[qz]at hv
     obtain⟨e1,f1,f2,f3,_⟩:=qf h hG hx
     obtain⟨e2,f4⟩:=qf h hG hi
     have hA:qq ρ (G++pc):=fun x hx=>(List.mem_append.1 hx).elim (hG x) (hpc x)
     have hlt:j.e.i ρ<len.e.i ρ:=by
      have key:(zhA j.e len.e).b ρ=true:=by
       have:=hv.1
       split at this
       ·rename_i hc
        rw[Bool.or_eq_true,List.any_eq_true,List.any_eq_true]at hc
        rcases hc with⟨y,hy,hyy⟩|⟨y,hy,hyy⟩
        ·exact E.impl_ok hyy (hG y hy)
        ·exact E.impl_ok hyy (hpc y hy)
       ·exact this _ (.head _) hA
      rw[zfg]at key
      simpa using key
     have h0:0<=j.e.i ρ:=by
      have:=hv.2
      split at this
      ·rename_i hc;have:=f4.1;omega
      ·have:=this _ (.head _) hA
       simp only[E.b,E.i]at this
       exact of_decide_eq_true this
     have hel:=f3 (j.e.i ρ).toNat (by omega)
     obtain⟨hmv,_⟩:=hel 0 c rfl
     obtain⟨p,off,g1,_,_⟩:=h.kept.1 k _ _ hmv
     have hl2:j.e.i ρ<((len.e.i ρ).toNat:Int):=by omega
     refine⟨?_,f4,h0,hel,p,off,g1⟩
     simp only[execOp,hop,e1,e2,SV.den,g1]
     simp[Instr.indexAt,run_underlying hu,asIntOf,qi hs,h0,hl2,hn]
     unfold Addr.add
     split<;>simp_all
    ·cases ho
   ·cases ho
  ·cases ho
 ·cases ho
def Zw (f:Int->Option SV) (j:E):Nat->Int->Option (T SV)
 |0,k=>(f k).map .leaf
 |n+1,k=>match f k,Zw f j n (k+1)with
  |some v,some t=>some (.node (znj j (.c k)) (.leaf v) t)
  |_,_=>none
theorem J6 {f:Int->Option SV} {j:E} {ρ:Env}:∀ {n:Nat} {k:Int} {t:T SV},Zw f j n k=some t->k<=j.i ρ->j.i ρ<=k+n->f (j.i ρ)=some (t.at ρ):=by
 intro n
 induction n with
 |zero=>
  intro k t h h1 h2
  have e:j.i ρ=k:=by omega
  simp only[Zw,Option.map_eq_some_iff]at h
  obtain⟨v,hv,rfl⟩:=h
  rw[e];exact hv
 |succ n ih=>
  intro k t h h1 h2
  simp only[Zw]at h
  split at h
  ·rename_i v u hv hu
   cases h
   simp only[T.at,zfh,E.i,decide_eq_true_eq]
   split
   ·rename_i e;rw[of_decide_eq_true e];exact hv
   ·rename_i e
    have:¬j.i ρ=k:=fun hh=>e (decide_eq_true hh)
    exact ih hu (by omega) (by omega)
  ·cases h
def opJ (P:Program) (G:List E) (S:St) (o:Oper):Option (T SV):=
 match o.op with
 | .indexAddr t x i=>match ev G S x,ev G S i with
   |some u,some (.int kd j)=>if decide (j.lo<j.hi)&&decide (j.hi<=j.lo+15)then Zw (fun k=>yS P t u (.int kd ⟨.c k,k,k⟩)) j.e (j.hi-j.lo).toNat j.lo else none
   |_,_=>none
 | .index t x i=>match ev G S x,ev G S i with
   |some u,some (.int kd j)=>if decide (j.lo<j.hi)&&decide (j.hi<=j.lo+15)then Zw (fun k=>Gq P t u (.int kd ⟨.c k,k,k⟩)) j.e (j.hi-j.lo).toNat j.lo else none
   |_,_=>none
 |_=>none
theorem zmy {P:Program} {G:List E} {S:St} {o:Oper} {t:T SV} (ho:opJ P G S o=some t) {ρ:Env} {b:Bd} {base:Nat->Prop} {w0 w:World} {a:Act} (h:Rel ρ b base w0 w S a.tmps) (hG:qq ρ G):
  (execOp a.eval o).run P w= .ok (.value ((t.at ρ).den ρ b)) w/\(t.at ρ).ok ρ (· <S.next):=by
 unfold opJ at ho
 split at ho
 ·rename_i t' x i hop
  split at ho
  ·rename_i u kd j hu hi
   split at ho
   ·rename_i hr
    simp only[Bool.and_eq_true,decide_eq_true_eq]at hr
    have e1:=qf h hG hu
    have e2:=qf h hG hi
    obtain⟨j1,j2⟩:=e2.2
    have hs:=J6 (ρ:=ρ) ho j1 (by omega)
    have:=x9 hs (b:=b) (ρ:=ρ) e1.2 (show(SV.int kd ⟨.c (j.e.i ρ),j.e.i ρ,j.e.i ρ⟩).ok ρ (· <S.next)from⟨Int.le_refl _,Int.le_refl _⟩) w
    simp only[SV.den,E.i]at this e2
    exact⟨by simp[execOp,hop,e1.1,e2.1,this.1],this.2⟩
   ·cases ho
  ·cases ho
 ·rename_i t' x i hop
  split at ho
  ·rename_i u kd j hu hi
   split at ho
   ·rename_i hr
    simp only[Bool.and_eq_true,decide_eq_true_eq]at hr
    have e1:=qf h hG hu
    have e2:=qf h hG hi
    obtain⟨j1,j2⟩:=e2.2
    have hs:=J6 (ρ:=ρ) ho j1 (by omega)
    have:=JU hs (b:=b) (ρ:=ρ) e1.2 (show(SV.int kd ⟨.c (j.e.i ρ),j.e.i ρ,j.e.i ρ⟩).ok ρ (· <S.next)from⟨Int.le_refl _,Int.le_refl _⟩) w
    simp only[SV.den,E.i]at this e2
    exact⟨by simp[execOp,hop,e1.1,e2.1,this.1],this.2⟩
   ·cases ho
  ·cases ho
 ·cases ho
def Zx (P:Program) (et:TypeId) (h:zl) (pc:List E) (ops:Array Oper) (S:St) (o:Oper):Option (T St × List VC):=
 if zhY S o then
  match QL ops S o with
  |none=>none
  |some none=>some (.leaf (S.setT o.dst ⟨[],.con undef⟩),[])
  |some (some G)=>
   match opU P et G S o with
   |some v=>v.nmS ziK fun v vs=>some (.leaf (S.setT o.dst ⟨G,v⟩),vs)
   |none=>
    match opN P G S o with
    |some (v,cells,elem)=>some (.leaf ((S.newG G cells elem).setT o.dst ⟨G,v⟩),[])
    |none=>match opI P pc G S o with
     |some (v,vs)=>some (.leaf (S.setT o.dst ⟨G,v⟩),vs)
     |none=>match opJ P G S o with
      |some t=>some (t.map fun v=>S.setT o.dst ⟨G,v⟩,[])
      |none=>
      if G.isEmpty then
       match opW P [] S o with
       |some (v,S')=>if S'.nt=S.nt then some (.leaf (S'.setT o.dst ⟨[],v⟩),[])else none
       |none=>match yV P [] S o with
        |some (k,l)=>zfl h pc S o.dst k l (visF S.heap)
        |none=>none
      else
       match yV P G S o with
       |some (k,l)=>match h (G++pc) k l (zqa G (zao (Yx S.heap l) S.heap)) S.next with
        |some (.leaf c,vs)=>if S.next<=c.next then some (.leaf (({S with heap:=mi G S.next c.heap++S.heap,next:=c.next}:St).setT o.dst ⟨G,c.v⟩),vs)else none
        |_=>none
       |none=>none
 else none
theorem zdC {ρ:Env} {l m:List E} (h:qq ρ l) (k:qq ρ m):qq ρ (l++m):=fun x hx=>(List.mem_append.1 hx).elim (h x) (k x)
theorem Blk.ok.down {ρ:Env} {b:Bd} {base base':Nat->Prop} {w:World} {n:Nat} {B:Blk} (h:B.ok ρ b base' w n) (ho:B.own=true) (hb:∀k,base k->base' k):B.ok ρ b base w n:=by
 unfold Blk.ok at h ⊢
 unfold Blk.own at ho
 split at h
 ·exact⟨h.1,fun hc=>h.2.1 (hb _ hc),h.2.2⟩
 ·exact⟨h.1,fun hc=>h.2.1 (hb _ hc),h.2.2⟩
 ·simp_all
 ·exact⟨h.1,fun hc=>h.2.1 (hb _ hc),h.2.2⟩
theorem HRel.called {ρ:Env} {b b':Bd} {base:Nat->Prop} {w w':World} {H H':List (Nat × HEnt)} {nx nx':Nat} {G:List E} (h:HRel ρ b base w H (· <nx)) (hb:zM b b' (· <nx)) (hbase:(∀k,base k->k<w.heap.size)) (hle:nx<=nx') (hbel:Kept (· <w.heap.size) w w')
  (hc:qq ρ G->HRel ρ b' (· <w.heap.size) w' H' (· <nx')):HRel ρ b' base w' (mi G nx H'++H) (· <nx'):=by
 have hm:=h.mono (w':=w') (M:=(· <nx')) hb (fun n hn=>Nat.lt_of_lt_of_le hn hle) (fun k hk=>hbel.block k hk) hbase
 have key:∀n e,zB (mi G nx H'++H) n=some e->qq ρ e.g->(∃x,zB H' n=some x/\nx<=n/\x.g=[]/\x.blk.own=true/\e.blk=x.blk/\qq ρ G)\/zB H n=some e:=by
  intro n e hf hg
  rw[Gz]at hf
  split at hf
  ·rename_i y hy
   cases hf
   obtain⟨x,h1,h2⟩:=qP (zG hy)
   split at h2
   ·rename_i hcnd
    cases h2
    simp only[Bool.and_eq_true,decide_eq_true_eq]at hcnd
    exact .inl ⟨x,h1,hcnd.1.1,by simpa using hcnd.1.2,hcnd.2,rfl,hg⟩
   ·cases h2
  ·exact .inr hf
 constructor
 ·intro n e hf hg
  rcases key n e hf hg with⟨x,h1,h2,h3,h4,h5,h6⟩|hf'
  ·obtain⟨m1,m2,m3⟩:=(hc h6).mem n x h1 (by rw[h3];exact zq ρ)
   rw[h5]
   exact⟨m1,m2.down h4 hbase,m3⟩
  ·exact hm.mem n e hf' hg
 ·intro n m e k hf hk hg hgk ho hok heq
  rcases key n e hf hg with⟨x,h1,h2,h3,h4,h5,h6⟩|hf'
  ·rcases key m k hk hgk with⟨y,k1,k2,k3,k4,k5,k6⟩|hk'
   ·exact(hc h6).inj n m x y h1 k1 (by rw[h3];exact zq ρ) (by rw[k3];exact zq ρ) h4 k4 heq
   ·exfalso
    have e1:=(((hc h6).mem n x h1 (by rw[h3];exact zq ρ)).2.1.base h4).1
    obtain⟨m1,m2,_⟩:=h.mem m k hk' hgk
    have e2:=m2.lt hbase
    rw[(hb m m1).1]at heq
    exact e1 (heq▸e2)
  ·rcases key m k hk hgk with⟨y,k1,k2,k3,k4,k5,k6⟩|hk'
   ·exfalso
    have e1:=(((hc k6).mem m y k1 (by rw[k3];exact zq ρ)).2.1.base k4).1
    obtain⟨m1,m2,_⟩:=h.mem n e hf' hg
    have e2:=m2.lt hbase
    rw[(hb n m1).1]at heq
    exact e1 (heq▸e2)
   ·exact hm.inj n m e k hf' hk' hg hgk ho hok heq
theorem J7 {P:Program} {et:TypeId} {h:zl} {ρ:Env} (he:ρ.et=et) (hh:HOK P ρ h) {pc:List E} {ops:Array Oper} {S:St} {o:Oper} {t:T St} {vs:List VC} (hs:Zx P et h pc ops S o=some (t,vs)) (hpc:qq ρ pc) (hv:jx ρ vs)
  {b:Bd} {base:Nat->Prop} {w0 w:World} {a:Act} (hr:Rel ρ b base w0 w S a.tmps) {i:Nat} (hi:ops[i]? =some o) {Q:Exit->Act->World->Prop} {K:Act->World->Prop}
  (hk:∀b' w' val,zM b b' (· <S.next)->Rel ρ b' base w0 w' (t.at ρ) (a.put o.dst val).tmps->S.next<=(t.at ρ).next->K (a.put o.dst val) w'):wpOp P ops Q i K a w:=by
 unfold Zx at hs
 split at hs
 ·rename_i hdst
  have hd:=zdB hdst
  have hnext:∀(U:St) (e:Ent),(U.setT o.dst e).next=U.next:=by intro U e;cases o.dst<;>rfl
  unfold wpOp
  rw[hi]
  dsimp only
  split at hs
  ·cases hs
  ·rename_i hg
   have:=Zv hr hg
   dsimp only at this
   rw[this]
   cases hs
   refine hk b w _ (zM.refl b _) (hr.put hd (fun _=>⟨rfl,trivial⟩) (fun hn=>absurd (zq ρ) hn)) (by rw[T.at,hnext];exact Nat.le_refl _)
  ·rename_i G hg
   have hw:=Zv hr hg
   dsimp only at hw
   split at hs
   ·rename_i v hov
    rw[SV.nmS_eq]at hs
    cases hs
    split
    ·rename_i hwt
     have hG:=hw.1 hwt
     obtain⟨e1,e2⟩:=zmo he hr hG hov
     have e3:=SV.sc_ok b hv e2
     refine .inl (yv (.inl e1) ?_)
     exact hk b w _ (zM.refl b _) (hr.put hd (fun _=>⟨e3.1.symm,e3.2⟩) (fun hn=>absurd hG hn)) (by rw[T.at,hnext];exact Nat.le_refl _)
    ·rename_i hwt
     have hG:¬qq ρ G:=fun hc=>hwt (hw.2 hc)
     exact hk b w _ (zM.refl b _) (hr.put hd (fun hc=>absurd hc hG) (fun _=>rfl)) (by rw[T.at,hnext];exact Nat.le_refl _)
   ·split at hs
    ·rename_i v cells elem hon
     cases hs
     split
     ·rename_i hwt
      have hG:=hw.1 hwt
      obtain⟨e1,e2,e3⟩:=zmq hr hG hon
      obtain⟨ha,hrel⟩:=hr.new e2 elem
      refine .inl (yv e1 ?_)
      have hrel2:Rel ρ (b.put S.next w.heap.size 0 0) base w0 (w.alloc (.cells (SV.denL ρ b cells).toArray elem)) (S.newG G cells elem) a.tmps:=by
       refine⟨hrel.heap.partF fun n e hf _=>?_,hrel.tmps,hrel.below,hrel.base,hrel.nt,hrel.kept⟩
       simp only[St.newG]at hf
       rw[qF]at hf
       simp only[St.new]
       rw[qF]
       split at hf
       ·rename_i hn
        cases hf
        rw[if_pos hn]
        exact⟨_,rfl,rfl,zq ρ⟩
       ·rename_i hn
        rw[if_neg hn]
        exact⟨e,hf,rfl,by assumption⟩
      exact hk _ _ _ ha (hrel2.put hd (fun _=>⟨rfl,e3⟩) (fun hn=>absurd hG hn)) (by rw[T.at,hnext];exact Nat.le_succ _)
     ·rename_i hwt
      have hG:¬qq ρ G:=fun hc=>hwt (hw.2 hc)
      have hrel2:Rel ρ b base w0 w (S.newG G cells elem) a.tmps:=by
       have hm:=hr.heap.mono (w':=w) (M:=(· <S.next+1)) (zM.refl b _) (fun n h=>Nat.lt_succ_of_lt h) (fun _ _=>rfl) hr.base
       refine⟨hm.partF fun n e hf hge=>?_,kS hr.tmps (zM.refl b _) (fun n h=>Nat.lt_succ_of_lt h),hr.below,hr.base,hr.nt,hr.kept⟩
       simp only[St.newG]at hf
       rw[qF]at hf
       split at hf
       ·cases hf;exact absurd hge hG
       ·exact⟨e,hf,rfl,hge⟩
      exact hk b w _ (zM.refl b _) (hrel2.put hd (fun hc=>absurd hc hG) (fun _=>rfl)) (by rw[T.at,hnext];exact Nat.le_succ _)
    ·split at hs
     ·rename_i v vs' hoi
      cases hs
      split
      ·rename_i hwt
       have hG:=hw.1 hwt
       obtain⟨e1,e2⟩:=zmx hoi hr hG hpc hv
       refine .inl (yv (.inl e1) ?_)
       exact hk b w _ (zM.refl b _) (hr.put hd (fun _=>⟨rfl,e2⟩) (fun hn=>absurd hG hn)) (by rw[T.at,hnext];exact Nat.le_refl _)
      ·rename_i hwt
       have hG:¬qq ρ G:=fun hc=>hwt (hw.2 hc)
       exact hk b w _ (zM.refl b _) (hr.put hd (fun hc=>absurd hc hG) (fun _=>rfl)) (by rw[T.at,hnext];exact Nat.le_refl _)
     split at hs
     ·rename_i t hoj
      cases hs
      split
      ·rename_i hwt
       have hG:=hw.1 hwt
       obtain⟨e1,e2⟩:=zmy hoj hr hG
       refine .inl (yv (.inl e1) ?_)
       exact hk b w _ (zM.refl b _) (by rw[T.map_at];exact hr.put hd (fun _=>⟨rfl,e2⟩) (fun hn=>absurd hG hn)) (by rw[T.map_at,hnext];exact Nat.le_refl _)
      ·rename_i hwt
       have hG:¬qq ρ G:=fun hc=>hwt (hw.2 hc)
       exact hk b w _ (zM.refl b _) (by rw[T.map_at];exact hr.put hd (fun hc=>absurd hc hG) (fun _=>rfl)) (by rw[T.map_at,hnext];exact Nat.le_refl _)
     split at hs
     ·rename_i hGe
      have hGe':G=[]:=by simpa using hGe
      subst hGe'
      rw[if_pos (hw.2 (zq ρ))]
      split at hs
      ·rename_i v S' how
       split at hs
       ·rename_i hnt
        cases hs
        obtain⟨b',w',e1,e2,e3,e4,e5⟩:=zmr hr (zq ρ) how
        refine .inl (yv e1 ?_)
        exact hk b' w' _ e2 (e3.put (fun d hd'=>by rw[hnt];exact hd d hd') (fun _=>⟨rfl,e4⟩) (fun hn=>absurd (zq ρ) hn)) (by rw[T.at,hnext];exact e5)
       ·cases hs
      ·split at hs
       ·rename_i k l hct
        unfold zfl at hs
        split at hs
        ·rename_i r vs' hhr
         cases hs
         obtain⟨e1,e2⟩:=gh hct hr (zq ρ)
         have hV:=hr.heap.visF
         have hFb:∀k,base k->FrP ρ b base w (visF S.heap) (Yx (visF S.heap) l) k:=fun k hk=> .inl hk
         have hFl:∀k,FrP ρ b base w (visF S.heap) (Yx (visF S.heap) l) k->k<w.heap.size:=fun k hk=>hk.elim (hr.base k) (fun x=>x.1)
         have hcall:=hh _ _ _ _ _ _ _ hhr hpc hv b (FrP ρ b base w (visF S.heap) (Yx (visF S.heap) l)) w w (hV.split _) ((hr.kept.kept hr.below).mono hFb) (Kept.refl _ _) hFl e2
         left
         unfold Oper.wp
         rw[e1]
         refine hcall.mono ?_
         rintro e w' ⟨b',rfl,c1,c2,c3,c4,c5,c6⟩
         refine hk b' w' _ c1 ?_ (by rw[T.map_at,hnext];exact c6)
         rw[T.map_at]
         have hrel2:Rel ρ b' base w0 w' ({S with heap:=zap (r.at ρ).heap (visF S.heap) (Yx (visF S.heap) l),next:=(r.at ρ).next}:St) a.tmps:=
          ⟨hV.join hr.base c1 (fun n h=>Nat.lt_of_lt_of_le h c6) c4 c2,kS hr.tmps c1 (fun n h=>Nat.lt_of_lt_of_le h c6),hr.below.trans (c4.mono hFb),fun k hk=>Nat.lt_of_lt_of_le (hr.base k hk) c4.size,hr.nt,hr.kept⟩
         exact hrel2.put hd (fun _=>⟨rfl,c3⟩) (fun hn=>absurd (zq ρ) hn)
        ·cases hs
       ·cases hs
     ·split at hs
      ·rename_i k l hct
       split at hs
       ·rename_i c vs' hhr
        split at hs
        ·rename_i hnx
         cases hs
         split
         ·rename_i hwt
          have hG:=hw.1 hwt
          obtain⟨e1,e2⟩:=gh hct hr hG
          have hcall:=hh _ _ _ _ _ _ _ hhr (zdC hG hpc) hv b (· <w.heap.size) w w ((hr.heap.partF fun n e hf hg=>by
           rw[yx]at hf
           split at hf
           ·exact⟨e,hf,rfl,hg⟩
           ·cases hf).far hG hr.base) ((hr.kept.kept hr.below).mono hr.base) (Kept.refl _ _) (fun _ h=>h) e2
          left
          unfold Oper.wp
          rw[e1]
          refine hcall.mono ?_
          rintro e w' ⟨b',rfl,c1,c2,c3,c4,c5,c6⟩
          simp only[T.at]at c2 c3 c6 ⊢
          refine hk b' w' _ c1 ?_ (by rw[T.at,hnext];exact c6)
          have hrel2:Rel ρ b' base w0 w' ({S with heap:=mi G S.next c.heap++S.heap,next:=c.next}:St) a.tmps:=
           ⟨hr.heap.called c1 hr.base c6 c4 (fun _=>c2),kS hr.tmps c1 (fun n h=>Nat.lt_of_lt_of_le h c6),hr.below.trans (c4.mono hr.base),fun k hk=>Nat.lt_of_lt_of_le (hr.base k hk) c4.size,hr.nt,hr.kept⟩
          exact hrel2.put hd (fun _=>⟨rfl,c3⟩) (fun hn=>absurd hG hn)
         ·rename_i hwt
          have hG:¬qq ρ G:=fun hc=>hwt (hw.2 hc)
          have hrel2:Rel ρ b base w0 w ({S with heap:=mi G S.next c.heap++S.heap,next:=c.next}:St) a.tmps:=
           ⟨hr.heap.called (zM.refl b _) hr.base hnx (Kept.refl _ _) (fun hc=>absurd hc hG),kS hr.tmps (zM.refl b _) (fun n h=>Nat.lt_of_lt_of_le h hnx),hr.below,hr.base,hr.nt,hr.kept⟩
          exact hk b w _ (zM.refl b _) (hrel2.put hd (fun hc=>absurd hc hG) (fun _=>rfl)) (by rw[T.at,hnext];exact hnx)
        ·cases hs
       ·cases hs
      ·cases hs
 ·cases hs
end Go.Proofs.YtoakpnoajmngmaaGreatDoor.Sx
namespace Go.Proofs.YtoakpnoajmngmaaGreatDoor.Sx
open Go.RowKit (Below)
def zdD (P:Program) (et:TypeId) (h:zl) (ops:Array Oper):List Nat->List E->St->Option (T St × List VC)
 |[],_,S=>some (.leaf S,[])
 |i::l,pc,S=>
  match ops[i]? with
  |some o=>match Zx P et h pc ops S o with
   |some (t,v)=>match T.bind (fun pc S=>zdD P et h ops l pc S) pc t with
    |some (t',v')=>some (t',v++v')
    |none=>none
   |none=>none
  |none=>none
def zaq (kp:Nat->Bool):List Nat->List (Nat × Ent)->List (Nat × Ent)
 |_,[]=>[]
 |seen,(n,e)::r=>
  if kp n then
   if seen.any (Nat.beq n)then zaq kp seen r
   else if e.g.isEmpty then(n,e)::zaq kp (n::seen) r else zaq kp (n::seen) r
  else zaq kp seen r
theorem zar {kp:Nat->Bool}:∀ {L:List (Nat × Ent)} {seen:List Nat} {n:Nat} {e:Ent},zB (zaq kp seen L) n=some e->zB L n=some e/\¬n∈seen/\kp n=true:=by
 intro L
 induction L with
 |nil=>intro seen n e h;cases h
 |cons a r ih=>
  obtain⟨m,x⟩:=a
  intro seen n e h
  simp only[zaq]at h
  have hne:zB (zaq kp seen r) n=some e->(kp m=true->m∈seen)->zB ((m,x)::r) n=some e/\¬n∈seen/\kp n=true:=by
   intro h hm
   obtain⟨h1,h2,h3⟩:=ih h
   refine⟨?_,h2,h3⟩
   simp only[zB]
   rw[if_neg]
   ·exact h1
   ·intro hc;subst hc;exact h2 (hm h3)
  split at h
  ·split at h
   ·rename_i hs
    rw[List.any_eq_true]at hs
    obtain⟨y,hy,hyn⟩:=hs
    exact hne h fun _=>by rw[Nat.eq_of_beq_eq_true hyn];exact hy
   ·rename_i hk hs
    have hs':¬m∈seen:=fun hc=>hs (List.any_eq_true.2 ⟨m,hc,Nat.beq_refl m⟩)
    have hpush:zB (zaq kp (m::seen) r) n=some e->zB ((m,x)::r) n=some e/\¬n∈seen/\kp n=true:=by
     intro h
     obtain⟨h1,h2,h3⟩:=ih h
     rw[List.mem_cons,not_or]at h2
     refine⟨?_,h2.2,h3⟩
     simp only[zB]
     rw[if_neg fun hc=>h2.1 hc.symm]
     exact h1
    split at h
    ·simp only[zB]at h ⊢
     split at h
     ·rename_i hmn
      cases h
      subst hmn
      exact⟨by simp,hs',hk⟩
     ·rename_i hmn
      have:=hpush h
      simp only[zB]at this
      exact this
    ·exact hpush h
  ·rename_i hk
   exact hne h fun hc=>absurd hc hk
def St.fin (kp:Nat->Bool) (S:St):St:=
 {S with tmps:=zaq kp [] S.tmps,heap:=if S.heap.all (fun x=>x.2.g.isEmpty)then S.heap else zhW S.heap}
def St.finF {β:Type} (kp:Nat->Bool) (S:St) (k:St->β):β:=match S with
 |⟨tm,H,nx,nt⟩=>kr nx fun nx=>kr nt fun nt=>match H.all (fun x=>x.2.g.isEmpty)with
  |true=>k ⟨zaq kp [] tm,H,nx,nt⟩
  |false=>k ⟨zaq kp [] tm,zhW H,nx,nt⟩
theorem St.finF_eq {β:Type} (kp:Nat->Bool) (S:St) (k:St->β):S.finF kp k=k (S.fin kp):=by
 obtain⟨tm,H,nx,nt⟩:=S
 simp only[St.finF,qY,St.fin]
 split<;>rename_i h<;>simp[h]
def T.finR {β:Type} (kp:Nat->Bool):T St->(T Lf->β)->β
 | .leaf S,k=>S.finF kp fun S=>k (.leaf ⟨.normal,S⟩)
 | .node d t u,k=>T.finR kp t fun t=>T.finR kp u fun u=>k (.node d t u)
theorem T.finR_eq {β:Type} (kp:Nat->Bool):∀(t:T St) (k:T Lf->β),T.finR kp t k=k (t.map fun S=>⟨.normal,S.fin kp⟩):=by
 intro t
 induction t with
 |leaf S=>intro k;simp only[T.finR,St.finF_eq,T.map]
 |node d t u iht ihu=>intro k;simp only[T.finR,iht,ihu,T.map]
theorem Rel.fin {ρ:Env} {b:Bd} {base:Nat->Prop} {w0 w:World} {S:St} {tm:Array Value} (h:Rel ρ b base w0 w S tm) (kp:Nat->Bool):Rel ρ b base w0 w (S.fin kp) tm:=by
 refine⟨?_,fun i e hf=>h.tmps i _ (zar hf).1,h.below,h.base,h.nt,h.kept⟩
 show HRel ρ b base w (if S.heap.all (fun x=>x.2.g.isEmpty)then S.heap else zhW S.heap) (· <S.next)
 split
 ·exact h.heap
 ·exact h.heap.vis
theorem GA {P:Program} {et:TypeId} {h:zl} {ρ:Env} (he:ρ.et=et) (hh:HOK P ρ h) {ops:Array Oper} {Q:Exit->Act->World->Prop}:∀ {l:List Nat} {pc:List E} {S:St} {t:T St} {vs:List VC},zdD P et h ops l pc S=some (t,vs)->qq ρ pc->jx ρ vs->
  ∀ {b:Bd} {base:Nat->Prop} {w0 w:World} {a:Act},Rel ρ b base w0 w S a.tmps->(∀b' w' a',a'.defers=a.defers->zM b b' (· <S.next)->Rel ρ b' base w0 w' (t.at ρ) a'.tmps->S.next<=(t.at ρ).next->Q .normal a' w')->wpOps P ops Q l a w:=by
 intro l
 induction l with
 |nil=>
  intro pc S t vs hs hpc hv b base w0 w a hr hk
  cases hs
  exact hk b w a rfl (zM.refl b _) hr (Nat.le_refl _)
 |cons i l ih=>
  intro pc S t vs hs hpc hv b base w0 w a hr hk
  rw[wpOps_cons]
  simp only[zdD]at hs
  split at hs
  ·rename_i o ho
   split at hs
   ·rename_i t1 v1 h1
    split at hs
    ·rename_i t2 v2 h2
     cases hs
     rw[qz]at hv
     obtain⟨pc',r',vs',a1,a2,a3,a4⟩:=T.bind_ok h2 hpc hv.2
     refine J7 he hh h1 hpc hv.1 hr ho (fun b' w' val d2 d3 d4=>?_)
     have d1:(a.put o.dst val).defers=a.defers:=by cases o.dst<;>rfl
     refine ih a1 a2 a3 d3 (fun b2 w2 a2' f1 f2 f3 f4=>?_)
     rw[<-a4]at f3 f4
     exact hk b2 w2 a2' (f1.trans d1) (d2.trans f2 (fun n hn=>Nat.lt_of_lt_of_le hn d4)) f3 (Nat.le_trans d4 f4)
    ·cases hs
   ·cases hs
  ·cases hs
def St.gc (low:Nat) (S:St):St:=match Yw S.heap 1000 ((S.tmps.flatMap fun x=>x.2.sv.names)++S.heap.flatMap fun x=>if Nat.blt x.1 low then SV.namesL x.2.blk.cells else[]) []with
 |ks=> {S with heap:=zao (fun n=>Nat.blt n low||ks.any (Nat.beq n)) S.heap}
theorem Rel.gc {low:Nat} {ρ:Env} {b:Bd} {base:Nat->Prop} {w0 w:World} {S:St} {tm:Array Value} (h:Rel ρ b base w0 w S tm):Rel ρ b base w0 w (S.gc low) tm:=by
 have hs:∀(p:Nat->Bool) n e,zB (zao p S.heap) n=some e->zB S.heap n=some e:=fun p n e hf=>by
  rw[yx]at hf
  split at hf
  ·exact hf
  ·cases hf
 exact⟨⟨fun n e hf hg=>h.heap.mem n e (hs _ n e hf) hg,fun n m e k hf hk hg hgk ho hok heq=>h.heap.inj n m e k (hs _ n e hf) (hs _ m k hk) hg hgk ho hok heq⟩,h.tmps,h.below,h.base,h.nt,h.kept⟩
def zhZ:Nat:=1000000000000
def T.tidy {β:Type} (low:Nat) (t:T Lf) (k:T Lf->List VC->β):β:=T.nmF zhZ (t.map fun l=>⟨l.x,l.st.gc low⟩) k
def T.tidyT (low:Nat) (t:T Lf):T Lf:=(T.nmP zhZ (t.map fun l=>⟨l.x,l.st.gc low⟩)).1
def T.tidyV (low:Nat) (t:T Lf):List VC:=(T.nmP zhZ (t.map fun l=>⟨l.x,l.st.gc low⟩)).2
theorem T.tidy_eq {β:Type} (low:Nat) (t:T Lf) (k:T Lf->List VC->β):T.tidy low t k=k (T.tidyT low t) (T.tidyV low t):=T.nmF_eq _ _ _
theorem T.tidy_ok {ρ:Env} {b:Bd} {base:Nat->Prop} {w0 w:World} {tm:Array Value} (low:Nat) (t:T Lf) (hv:jx ρ (T.tidyV low t)) (h:Rel ρ b base w0 w (t.at ρ).st tm):((T.tidyT low t).at ρ).x=(t.at ρ).x/\Rel ρ b base w0 w ((T.tidyT low t).at ρ).st tm/\((T.tidyT low t).at ρ).st.next=(t.at ρ).st.next:=by
 have h1:Rel ρ b base w0 w ((t.map fun l=>(⟨l.x,l.st.gc low⟩:Lf)).at ρ).st tm:=by rw[T.map_at];exact h.gc
 obtain⟨a1,a2,a3⟩:=T.nmP_ok _ hv h1
 rw[T.map_at]at a1 a3
 exact⟨a1,a2,a3⟩
def zdE (f:List E->St->Option (T Lf × List VC)):Nat->List E->St->Option (T Lf × List VC)
 |0,_,_=>none
 |n+1,pc,S=>
  match f pc S with
  |some (t,v)=>match T.bind (fun pc l=>match l.x with
    | .normal=>zdE f n pc l.st
    |_=>some (.leaf l,[])) pc t with
   |some (t',v')=>some (t',v++v')
   |none=>none
  |none=>none
def has (pc:List E) (d:E):Bool:=pc.any fun x=>x.same d
theorem zfm {ρ:Env} {pc:List E} {d:E} (h:has pc d=true) (hpc:qq ρ pc):d.b ρ=true:=by
 unfold has at h
 rw[List.any_eq_true]at h
 obtain⟨x,hx,hs⟩:=h
 rw[<-E.same_eq hs];exact hpc x hx
structure Fc where
 kp:Nat->Nat->Bool
 lit:Bool
 bound:Nat
 big:Nat
 low:Nat
def mU (P:Program) (et:TypeId) (h:zl) (drw:Array Oper->List E->St->Option (T St × List VC)) (c:Fc):Code->List E->St->Option (T Lf × List VC)
 | .skip,_,S=>some (.leaf ⟨.normal,S⟩,[])
 | .region id ops draw,pc,S=>
   match(if draw then drw ops pc S else zdD P et h ops (List.range ops.size) pc S)with
   |some (t,v)=>match Nat.ble 1000 c.big with
    |true=>T.finR (c.kp id) t fun t=>T.tidy c.low t fun t v'=>some (T.nrm et c.lit c.big S.next t (v++v'))
    |false=>T.finR (c.kp id) t fun t=>some (T.nrm et c.lit c.big S.next t v)
   |none=>none
 | .seq x y,pc,S=>
   match mU P et h drw c x pc S with
   |some (t,v)=>match T.bind (fun pc l=>match l.x with
     | .normal=>mU P et h drw c y pc l.st
     |_=>some (.leaf l,[])) pc t with
    |some (t',v')=>some (T.nrm et c.lit c.big S.next t' (v++v'))
    |none=>none
   |none=>none
 | .cond o x y,pc,S=>
   match ev [] S o with
   |some (.bool (.bc true))=>mU P et h drw c x pc S
   |some (.bool (.bc false))=>mU P et h drw c y pc S
   |some (.bool d)=>
    if has pc d then mU P et h drw c x pc S
    else if has pc (jz d)then mU P et h drw c y pc S
    else match mU P et h drw c x (d::pc) (S.under et d),mU P et h drw c y (jz d::pc) (S.under et (jz d))with
     |some (t,v),some (u,v')=>some (T.nrm et c.lit c.big S.next (.node d t u) (v++v'))
     |_,_=>none
   |_=>none
 | .block id x,pc,S=>
   match mU P et h drw c x pc S with
   |some (t,v)=>some (T.nrm et c.lit c.big S.next (t.map fun l=>if l.x= .exit id then⟨.normal,l.st⟩else l) v)
   |none=>none
 | .loop x,pc,S=>zdE (mU P et h drw c x) c.bound pc S
 | .exit id,_,S=>some (.leaf ⟨.exit id,S⟩,[])
 | .ret,_,S=>some (.leaf ⟨.ret,S⟩,[])
 |_,_,_=>none
def XK.ex:XK->Exit
 | .normal=> .normal
 | .exit id=> .exit id
 | .ret=> .ret
def m6 (ρ:Env) (base:Nat->Prop) (w0:World) (b:Bd) (nx:Nat) (l:Lf) (dfs:List Deferred):Exit->Act->World->Prop:=fun e a' w'=>
 e=l.x.ex/\a'.defers=dfs/\∃b',zM b b' (· <nx)/\Rel ρ b' base w0 w' l.st a'.tmps/\nx<=l.st.next
def DOK (P:Program) (ρ:Env) (drw:Array Oper->List E->St->Option (T St × List VC)):Prop:=
 ∀ops pc S t vs,drw ops pc S=some (t,vs)->qq ρ pc->jx ρ vs->∀id b base w0 w a,Rel ρ b base w0 w S a.tmps->
  (Code.region id ops true).wp P (fun e a' w'=>e= .normal/\a'.defers=a.defers/\∃b',zM b b' (· <S.next)/\Rel ρ b' base w0 w' (t.at ρ) a'.tmps/\S.next<=(t.at ρ).next) a w
theorem m6.nrm {ρ:Env} {base:Nat->Prop} {w0:World} {b:Bd} {nx:Nat} {dfs:List Deferred} {et:TypeId} (he:ρ.et=et) {k:Bool} {big n0:Nat} {t:T Lf} {v:List VC} (hv:jx ρ (T.nrm et k big n0 t v).2) {e:Exit} {a:Act} {w:World} (h:m6 ρ base w0 b nx (t.at ρ) dfs e a w):m6 ρ base w0 b nx ((T.nrm et k big n0 t v).1.at ρ) dfs e a w:=by
 obtain⟨h1,h2,b',h3,h4,h5⟩:=h
 obtain⟨m1,m2,m3⟩:=(T.nrm_ok he hv).2 h4
 exact⟨by rw[m1];exact h1,h2,b',h3,m2,Nat.le_trans h5 m3⟩
theorem zdF {P:Program} {ρ:Env} {f:List E->St->Option (T Lf × List VC)} {c:Code} (hf:∀pc S t vs,f pc S=some (t,vs)->qq ρ pc->jx ρ vs->∀b base w0 w a,Rel ρ b base w0 w S a.tmps->c.wp P (m6 ρ base w0 b S.next (t.at ρ) a.defers) a w):
  ∀n pc S t vs,zdE f n pc S=some (t,vs)->qq ρ pc->jx ρ vs->∀b base w0 w a,Rel ρ b base w0 w S a.tmps->Code.rounds P c (m6 ρ base w0 b S.next (t.at ρ) a.defers) n a w:=by
 intro n
 induction n with
 |zero=>intro pc S t vs h;cases h
 |succ n ih=>
  intro pc S t vs h hpc hv b base w0 w a hr
  simp only[zdE]at h
  split at h
  ·rename_i t1 v1 h1
   split at h
   ·rename_i t2 v2 h2
    cases h
    rw[qz]at hv
    obtain⟨pc',r',vs',a1,a2,a3,a4⟩:=T.bind_ok h2 hpc hv.2
    rw[rounds_succ]
    refine wp_mono (hf _ _ _ _ h1 hpc hv.1 b base w0 w a hr) ?_
    rintro e a' w' ⟨g1,g2,b',g3,g4,g5⟩
    rw[a4]
    generalize (t1.at ρ)=l at*
    obtain⟨x,st⟩:=l
    cases x with
    |normal=>
     simp only[XK.ex]at g1
     subst g1
     simp only[Exit.then]
     have key:=ih _ _ _ _ a1 a2 a3 b' base w0 w' a' g4
     refine rounds_mono (fun e a w h=>?_) n a' w' key
     obtain⟨k1,k2,b2,k3,k4,k5⟩:=h
     exact⟨k1,k2.trans g2,b2,g3.trans k3 (fun n hn=>Nat.lt_of_lt_of_le hn g5),k4,Nat.le_trans g5 k5⟩
    |exit id=>
     cases a1
     subst g1
     exact⟨rfl,g2,b',g3,g4,g5⟩
    |ret=>
     cases a1
     subst g1
     exact⟨rfl,g2,b',g3,g4,g5⟩
   ·cases h
  ·cases h
where
 rounds_mono {P:Program} {c:Code} {Q Q':Exit->Act->World->Prop} (hq:∀e a w,Q e a w->Q' e a w):∀n a w,Code.rounds P c Q n a w->Code.rounds P c Q' n a w:=by
  intro n
  induction n with
  |zero=>intro a w h;exact h.elim
  |succ n ih=>
   intro a w h
   rw[rounds_succ]at h ⊢
   refine wp_mono h ?_
   intro e a' w' h'
   cases e<;>simp only[Exit.then]at h' ⊢ <;>first|exact ih _ _ h'|exact hq _ _ _ h'
theorem zas {P:Program} {et:TypeId} {h:zl} {ρ:Env} (he:ρ.et=et) (hh:HOK P ρ h) {drw:Array Oper->List E->St->Option (T St × List VC)} (hd:DOK P ρ drw) {c:Fc}:∀(x:Code) (pc:List E) (S:St) (t:T Lf) (vs:List VC),mU P et h drw c x pc S=some (t,vs)->qq ρ pc->jx ρ vs->
  ∀b base w0 w a,Rel ρ b base w0 w S a.tmps->x.wp P (m6 ρ base w0 b S.next (t.at ρ) a.defers) a w:=by
 intro x
 induction x with
 |skip=>
  intro pc S t vs hs hpc hv b base w0 w a hr
  simp only[mU]at hs
  cases hs
  exact wp_skip ⟨rfl,rfl,b,zM.refl b _,hr,Nat.le_refl _⟩
 |region id ops draw=>
  intro pc S t vs hs hpc hv b base w0 w a hr
  simp only[mU]at hs
  split at hs
  ·rename_i t1 v1 h1
   split at hs
   ·rw[T.finR_eq,T.tidy_eq]at hs
    obtain⟨rfl,rfl⟩:=yU hs
    have hv0:=hv
    have hvv:=(T.nrm_ok he hv).1
    rw[qz]at hvv
    obtain⟨hv,hvt⟩:=hvv
    cases draw with
    |false=>
     simp only[Bool.false_eq_true,if_false]at h1
     refine wp_region (GA he hh h1 hpc hv hr (fun b' w' a' d1 d2 d3 d4=>?_))
     refine m6.nrm he hv0 ?_
     have hm:=T.map_at (fun S:St=>(⟨.normal,S.fin (c.kp id)⟩:Lf)) ρ t1
     obtain⟨e1,e2,e3⟩:=T.tidy_ok (b:=b') (base:=base) (w0:=w0) (w:=w') (tm:=a'.tmps) c.low (t1.map fun S=>⟨.normal,S.fin (c.kp id)⟩) hvt (by rw[hm];exact d3.fin (c.kp id))
     rw[hm]at e1 e3
     exact⟨by rw[e1];rfl,d1,b',d2,e2,by rw[e3];exact d4⟩
    |true=>
     simp only[if_true]at h1
     refine wp_mono (hd _ _ _ _ _ h1 hpc hv id b base w0 w a hr) ?_
     rintro e a' w' ⟨rfl,d1,b',d2,d3,d4⟩
     refine m6.nrm he hv0 ?_
     have hm:=T.map_at (fun S:St=>(⟨.normal,S.fin (c.kp id)⟩:Lf)) ρ t1
     obtain⟨e1,e2,e3⟩:=T.tidy_ok (b:=b') (base:=base) (w0:=w0) (w:=w') (tm:=a'.tmps) c.low (t1.map fun S=>⟨.normal,S.fin (c.kp id)⟩) hvt (by rw[hm];exact d3.fin (c.kp id))
     rw[hm]at e1 e3
     exact⟨by rw[e1];rfl,d1,b',d2,e2,by rw[e3];exact d4⟩
   ·rw[T.finR_eq]at hs
    obtain⟨rfl,rfl⟩:=yU hs
    have hv0:=hv
    have hv:=(T.nrm_ok he hv).1
    cases draw with
    |false=>
     simp only[Bool.false_eq_true,if_false]at h1
     refine wp_region (GA he hh h1 hpc hv hr (fun b' w' a' d1 d2 d3 d4=>?_))
     refine m6.nrm he hv0 ?_
     rw[T.map_at]
     exact⟨rfl,d1,b',d2,d3.fin (c.kp id),d4⟩
    |true=>
     simp only[if_true]at h1
     refine wp_mono (hd _ _ _ _ _ h1 hpc hv id b base w0 w a hr) ?_
     rintro e a' w' ⟨rfl,d1,b',d2,d3,d4⟩
     refine m6.nrm he hv0 ?_
     rw[T.map_at]
     exact⟨rfl,d1,b',d2,d3.fin (c.kp id),d4⟩
  ·cases hs
 |seq x y ihx ihy=>
  intro pc S t vs hs hpc hv b base w0 w a hr
  simp only[mU]at hs
  split at hs
  ·rename_i t1 v1 h1
   split at hs
   ·rename_i t2 v2 h2
    obtain⟨rfl,rfl⟩:=yU hs
    have hv0:=hv
    have hv:=(T.nrm_ok he hv).1
    rw[qz]at hv
    obtain⟨pc',r',vs',a1,a2,a3,a4⟩:=T.bind_ok h2 hpc hv.2
    refine wp_seq (wp_mono (ihx _ _ _ _ h1 hpc hv.1 b base w0 w a hr) ?_)
    rintro e a' w' ⟨g1,g2,b',g3,g4,g5⟩
    generalize (t1.at ρ)=l at*
    obtain⟨xk,st⟩:=l
    cases xk with
    |normal=>
     simp only[XK.ex]at g1
     subst g1
     simp only[Exit.then]
     refine wp_mono (ihy _ _ _ _ a1 a2 a3 b' base w0 w' a' g4) ?_
     rintro e a2' w2 ⟨k1,k2,b2,k3,k4,k5⟩
     refine m6.nrm he hv0 ?_
     rw[a4]
     exact⟨k1,k2.trans g2,b2,g3.trans k3 (fun n hn=>Nat.lt_of_lt_of_le hn g5),k4,Nat.le_trans g5 k5⟩
    |exit id=>
     cases a1
     subst g1
     refine m6.nrm he hv0 ?_
     rw[a4]
     exact⟨rfl,g2,b',g3,g4,g5⟩
    |ret=>
     cases a1
     subst g1
     refine m6.nrm he hv0 ?_
     rw[a4]
     exact⟨rfl,g2,b',g3,g4,g5⟩
   ·cases hs
  ·cases hs
 |cond o x y ihx ihy=>
  intro pc S t vs hs hpc hv b base w0 w a hr
  simp only[mU]at hs
  split at hs
  ·rename_i hev
   have e1:=(qf hr (zq ρ) hev).1
   exact wp_cond_true e1 (ihx _ _ _ _ hs hpc hv b base w0 w a hr)
  ·rename_i hev
   have e1:=(qf hr (zq ρ) hev).1
   exact wp_cond_false e1 (ihy _ _ _ _ hs hpc hv b base w0 w a hr)
  ·rename_i d _ _ hev
   have e1:a.eval o= .bool (d.b ρ):=(qf hr (zq ρ) hev).1
   split at hs
   ·rename_i hp
    rw[zfm hp hpc]at e1
    exact wp_cond_true e1 (ihx _ _ _ _ hs hpc hv b base w0 w a hr)
   ·split at hs
    ·rename_i hp
     have:=zfm hp hpc
     rw[q7]at this
     have hdf:d.b ρ=false:=by simpa using this
     rw[hdf]at e1
     exact wp_cond_false e1 (ihy _ _ _ _ hs hpc hv b base w0 w a hr)
    ·split at hs
     ·rename_i t1 v1 u1 v2 h1 h2
      obtain⟨rfl,rfl⟩:=yU hs
      have hv0:=hv
      have hv:=(T.nrm_ok he hv).1
      rw[qz]at hv
      by_cases hdt:d.b ρ=true
      ·rw[hdt]at e1
       refine wp_cond_true e1 (wp_mono (ihx _ _ _ _ h1 (jR hdt hpc) hv.1 b base w0 w a (hr.under he hdt)) ?_)
       intro e a' w' hg
       refine m6.nrm he hv0 ?_
       simp only[T.at,hdt,if_true]
       exact hg
      ·have hdf:d.b ρ=false:=by simpa using hdt
       have hdn:(jz d).b ρ=true:=by rw[q7,hdf];rfl
       rw[hdf]at e1
       refine wp_cond_false e1 (wp_mono (ihy _ _ _ _ h2 (jR hdn hpc) hv.2 b base w0 w a (hr.under he hdn)) ?_)
       intro e a' w' hg
       refine m6.nrm he hv0 ?_
       simp only[T.at,hdf,Bool.false_eq_true,if_false]
       exact hg
     ·cases hs
  ·cases hs
 |block id x ih=>
  intro pc S t vs hs hpc hv b base w0 w a hr
  simp only[mU]at hs
  split at hs
  ·rename_i t1 v1 h1
   obtain⟨rfl,rfl⟩:=yU hs
   have hv0:=hv
   have hv:=(T.nrm_ok he hv).1
   refine wp_block (wp_mono (ih _ _ _ _ h1 hpc hv b base w0 w a hr) ?_)
   rintro e a' w' ⟨g1,g2,b',g3,g4,g5⟩
   have key:∀e,e=(if(t1.at ρ).x= .exit id then(⟨.normal,(t1.at ρ).st⟩:Lf)else t1.at ρ).x.ex->m6 ρ base w0 b S.next ((T.nrm et c.lit c.big S.next (t1.map fun l=>if l.x= .exit id then⟨.normal,l.st⟩else l) v1).1.at ρ) a.defers e a' w':=by
    intro e hee
    refine m6.nrm he hv0 ?_
    rw[T.map_at]
    refine⟨hee,g2,b',g3,?_,?_⟩
    ·split<;>exact g4
    ·split<;>exact g5
   subst g1
   cases hx:(t1.at ρ).x with
   |normal=>exact key _ (by rw[if_neg (by rw[hx];simp),hx])
   |exit id'=>
    simp only[XK.ex,Exit.inBlock]
    by_cases hid:id'=id
    ·rw[if_pos hid]
     exact key _ (by rw[if_pos (by rw[hx,hid])];rfl)
    ·rw[if_neg hid]
     exact key _ (by rw[if_neg (by rw[hx];simp[hid]),hx];rfl)
   |ret=>exact key _ (by rw[if_neg (by rw[hx];simp),hx])
  ·cases hs
 |loop x ih=>
  intro pc S t vs hs hpc hv b base w0 w a hr
  simp only[mU]at hs
  exact wp_loop_rounds c.bound (zdF ih _ _ _ _ _ hs hpc hv b base w0 w a hr)
 |exit id=>
  intro pc S t vs hs hpc hv b base w0 w a hr
  simp only[mU]at hs
  cases hs
  exact wp_exit ⟨rfl,rfl,b,zM.refl b _,hr,Nat.le_refl _⟩
 |ret=>
  intro pc S t vs hs hpc hv b base w0 w a hr
  simp only[mU]at hs
  cases hs
  exact wp_ret ⟨rfl,rfl,b,zM.refl b _,hr,Nat.le_refl _⟩
 |_=>
  intros
  rename_i hs _ _ _ _ _ _ _ _
  simp[mU]at hs
end Go.Proofs.YtoakpnoajmngmaaGreatDoor.Sx
namespace Go.Proofs.YtoakpnoajmngmaaGreatDoor.Sx
open Go.RowKit (Below)
def T.mapO {α β:Type} (f:α->Option β):T α->Option (T β)
 | .leaf x=>(f x).map .leaf
 | .node c t u=>match T.mapO f t,T.mapO f u with
   |some t',some u'=>some (.node c t' u')
   |_,_=>none
theorem T.mapO_at {α β:Type} {f:α->Option β} {ρ:Env}:∀ {t:T α} {r:T β},T.mapO f t=some r->f (t.at ρ)=some (r.at ρ):=by
 intro t
 induction t with
 |leaf x=>
  intro r h
  simp only[T.mapO]at h
  rw[Option.map_eq_some_iff]at h
  obtain⟨y,hy,rfl⟩:=h
  exact hy
 |node c t u iht ihu=>
  intro r h
  simp only[T.mapO]at h
  split at h
  ·rename_i t' u' h1 h2
   cases h
   simp only[T.at]
   split
   ·exact iht h1
   ·exact ihu h2
  ·cases h
def prune (nx:Nat) (v:SV) (H:List (Nat × HEnt)):List (Nat × HEnt):=
 let old:=H.filter fun x=>decide (x.1<nx)
 let keep:=Yw H 1000 (v.names++old.flatMap fun x=>SV.namesL x.2.blk.cells) []
 ju (fun n e=>if decide (n<nx)||keep.contains n then some e else none) H H
theorem HRel.prune {ρ:Env} {b:Bd} {base:Nat->Prop} {w:World} {H:List (Nat × HEnt)} {N:Nat->Prop} (h:HRel ρ b base w H N) (nx:Nat) (v:SV):HRel ρ b base w (prune nx v H) N:=
 h.part fun n e hm=>by
  obtain⟨x,h1,h2⟩:=qP hm
  split at h2
  ·cases h2;exact⟨_,h1,rfl,id⟩
  ·cases h2
def T.normC (et:TypeId) (n0:Nat):T CR->T CR
 | .leaf l=> .leaf l
 | .node c t u=>
   match T.normC et n0 t,T.normC et n0 u with
   | .leaf l,.leaf m=>(match M0 et c l.v m.v,zhV et c n0 l.heap m.heap l.heap with
     |some v,some H=> .leaf ⟨v,H,max l.next m.next⟩
     |_,_=> .node c (.leaf l) (.leaf m))
   |t',u'=> .node c t' u'
def zfn (ρ:Env) (b:Bd) (base:Nat->Prop) (w:World) (c:CR) (val:Value):Prop:=c.v.den ρ b=val/\c.v.ok ρ (· <c.next)/\HRel ρ b base w c.heap (· <c.next)
theorem T.normC_ok {et:TypeId} {ρ:Env} (he:ρ.et=et) {n0:Nat} {b:Bd} {base:Nat->Prop} {w:World} {val:Value}:∀(t:T CR),zfn ρ b base w (t.at ρ) val->zfn ρ b base w ((T.normC et n0 t).at ρ) val/\(t.at ρ).next<=((T.normC et n0 t).at ρ).next:=by
 intro t
 induction t with
 |leaf l=>exact fun h=>⟨h,Nat.le_refl _⟩
 |node c t u iht ihu=>
  intro h
  have key:zfn ρ b base w (if c.b ρ=true then(T.normC et n0 t).at ρ else(T.normC et n0 u).at ρ) val/\((T.node c t u).at ρ).next<=(if c.b ρ=true then(T.normC et n0 t).at ρ else(T.normC et n0 u).at ρ).next:=by
   simp only[T.at]at h ⊢
   by_cases hc:c.b ρ=true
   ·simp only[hc,if_true]at h ⊢;exact iht h
   ·simp only[hc]at h ⊢;exact ihu h
  simp only[T.normC]
  split
  ·rename_i l m hl hm
   rw[hl,hm]at key
   simp only[T.at]at key
   split
   ·rename_i v H hv hH
    simp only[T.at]
    by_cases hc:c.b ρ=true
    ·simp only[hc,if_true]at key ⊢
     obtain⟨⟨k1,k2,k3⟩,k4⟩:=key
     have e1:=M3 he hc hv (b:=b) k2
     have hN:∀n,n<l.next->n<max l.next m.next:=fun n hn=>Nat.lt_of_lt_of_le hn (Nat.le_max_left _ _)
     exact⟨⟨e1.1.trans k1,SV.ok_mono hN _ e1.2,zfj he hc hH hN k3⟩,Nat.le_trans k4 (Nat.le_max_left _ _)⟩
    ·have hc':c.b ρ=false:=by simpa using hc
     simp only[hc',Bool.false_eq_true,if_false]at key ⊢
     obtain⟨⟨k1,k2,k3⟩,k4⟩:=key
     have e1:=M4 he hc' hv (b:=b) k2
     have hN:∀n,n<m.next->n<max l.next m.next:=fun n hn=>Nat.lt_of_lt_of_le hn (Nat.le_max_right _ _)
     exact⟨⟨e1.1.trans k1,SV.ok_mono hN _ e1.2,zfk he hc' hH hN k3⟩,Nat.le_trans k4 (Nat.le_max_right _ _)⟩
   ·exact key
  ·exact key
def T.nmC (big:Nat):T CR->T CR × List VC
 | .leaf l=>(.leaf ⟨l.v.nm big,J2 big l.heap,l.next⟩,l.v.nmc big++mh big l.heap)
 | .node c t u=>(.node c (T.nmC big t).1 (T.nmC big u).1,(T.nmC big t).2++(T.nmC big u).2)
theorem T.nmC_ok {ρ:Env} {big:Nat} {b:Bd} {base:Nat->Prop} {w:World} {val:Value}:∀(t:T CR),jx ρ (T.nmC big t).2->zfn ρ b base w (t.at ρ) val->zfn ρ b base w ((T.nmC big t).1.at ρ) val/\(t.at ρ).next=((T.nmC big t).1.at ρ).next:=by
 intro t
 induction t with
 |leaf l=>
  rintro hv ⟨h1,h2,h3⟩
  rw[T.nmC,qz]at hv
  have:=SV.nm_ok b l.v hv.1 h2
  exact⟨⟨this.1.trans h1,this.2,h3.nm hv.2⟩,rfl⟩
 |node c t u iht ihu=>
  intro hv h
  rw[T.nmC,qz]at hv
  simp only[T.nmC,T.at]at h ⊢
  by_cases hc:c.b ρ=true
  ·simp only[hc,if_true]at h ⊢;exact iht hv.1 h
  ·simp only[hc]at h ⊢;exact ihu hv.2 h
def T.nrmC (et:TypeId) (big n0:Nat) (t:T CR) (v:List VC):T CR × List VC:=
 match T.nmC big (T.normC et n0 t)with
 |(t',v')=>(t',v++v')
theorem T.nrmC_ok {et:TypeId} {ρ:Env} (he:ρ.et=et) {big n0:Nat} {b:Bd} {base:Nat->Prop} {w:World} {val:Value} (t:T CR) {v:List VC} (hv:jx ρ (T.nrmC et big n0 t v).2) (h:zfn ρ b base w (t.at ρ) val):jx ρ v/\zfn ρ b base w ((T.nrmC et big n0 t v).1.at ρ) val/\(t.at ρ).next<=((T.nrmC et big n0 t v).1.at ρ).next:=by
 rw[T.nrmC,qz]at hv
 obtain⟨h1,h2⟩:=T.normC_ok he (n0:=n0) t h
 obtain⟨h3,h4⟩:=T.nmC_ok (T.normC et n0 t) hv.2 h1
 exact⟨hv.1,h3,by rw[h4]at h2;exact h2⟩
structure Cfg where
 sum:zl
 fc:FuncId->Fc
def jS:zl:=fun _ _ _ _ _=>none
theorem zP (P:Program) (ρ:Env):HOK P ρ jS:=by
 intro pc k args H nx r vs h
 cases h
def zF (f g:zl):zl:=fun pc k args H nx=>match f pc k args H nx with
 |some r=>some r
 |none=>g pc k args H nx
theorem zc {P:Program} {ρ:Env} {f g:zl} (hf:HOK P ρ f) (hg:HOK P ρ g):HOK P ρ (zF f g):=by
 intro pc k args H nx r vs h
 unfold zF at h
 split at h
 ·rename_i x hx
  cases h
  exact hf pc k args H nx _ _ hx
 ·exact hg pc k args H nx _ _ h
def zh0 (l:List SV):List (Nat × Ent):=l.zipIdx.map fun x=>(x.2,⟨[],x.1⟩)
theorem Zy (l:List SV) (k i:Nat) (e:Ent) (h:zB ((l.zipIdx k).map fun x=>(x.2,(⟨[],x.1⟩:Ent))) i=some e):∃v,k<=i/\l[i-k]? =some v/\e=⟨[],v⟩:=by
 induction l generalizing k with
 |nil=>cases h
 |cons a l ih=>
  simp only[List.zipIdx_cons,List.map_cons,zB]at h
  split at h
  ·rename_i hk
   cases h
   subst hk
   exact⟨a,Nat.le_refl _,by simp,rfl⟩
  ·rename_i hk
   obtain⟨v,h1,h2,h3⟩:=ih (k+1) h
   refine⟨v,by omega,?_,h3⟩
   have:i-k=(i-(k+1))+1:=by omega
   rw[this]
   simpa using h2
def zh1 (P:Program) (fn:Func) (nx:Nat) (l:Lf):Option CR:=
 match l.x with
 | .exit _=>none
 |_=>match jL P l.st fn.results.toList with
  |some r=>some ⟨qJ r,prune nx (qJ r) (zhW l.st.heap),l.st.next⟩
  |none=>none
def zH (P:Program) (et:TypeId) (cfg:Cfg) (drw:zl->Array Oper->List E->St->Option (T St × List VC)):Nat->zl
 |0=>fun _ _ _ _ _=>none
 |d+1=>fun pc f args H nx=>
  match cfg.sum pc f args H nx with
  |some r=>some r
  |none=>
   match P.funcs[f]? with
   |some fn=>match fn.body with
    |some c=>
     match mU P et (zH P et cfg drw d) (drw (zH P et cfg drw d)) {cfg.fc f with low:=nx} c pc ⟨zh0 args,H,nx,args.length+(fn.ntmps-args.length)⟩with
     |some (t,vs)=>match T.mapO (zh1 P fn nx) t with
      |some r=>some (T.nrmC et (cfg.fc f).big nx r vs)
      |none=>none
     |none=>none
    |none=>none
   |none=>none
theorem QM {P:Program} {et:TypeId} {cfg:Cfg} {drw:zl->Array Oper->List E->St->Option (T St × List VC)} {ρ:Env} (he:ρ.et=et) (hs:HOK P ρ cfg.sum) (hd:∀h,HOK P ρ h->DOK P ρ (drw h)):∀d,HOK P ρ (zH P et cfg drw d):=by
 intro d
 induction d with
 |zero=>intro pc f args H nx r vs h;cases h
 |succ d ih=>
  intro pc f args H nx r vs h hpc hv b base w0 w hH hmem hbel hbase hargs
  simp only[zH]at h
  split at h
  ·rename_i x hx
   cases h
   exact hs pc f args H nx r vs hx hpc hv b base w0 w hH hmem hbel hbase hargs
  ·split at h
   ·rename_i fn hfn
    split at h
    ·rename_i c hc
     split at h
     ·rename_i t v1 hex
      split at h
      ·rename_i r' hr'
       have h':=Option.some.inj h
       obtain rfl:(T.nrmC et (cfg.fc f).big nx r' v1).1=r:=by rw[h']
       obtain rfl:(T.nrmC et (cfg.fc f).big nx r' v1).2=vs:=by rw[h']
       clear h h'
       have hv0:=hv
       have hv:jx ρ v1:=by rw[T.nrmC,qz]at hv;exact hv.1
       refine calls_of_wp hfn hc ?_
       have hr0:Rel ρ b base w0 w ⟨zh0 args,H,nx,args.length+(fn.ntmps-args.length)⟩ ((SV.denL ρ b args).toArray++Array.replicate (fn.ntmps-(SV.denL ρ b args).toArray.size) undef):=by
        refine⟨hH,fun i e hf=>?_,hbel,hbase,by simp[zk],hmem⟩
        obtain⟨v,_,h2,rfl⟩:=Zy args 0 i e hf
        simp only[Nat.sub_zero]at h2
        have hl:=(List.getElem?_eq_some_iff.1 h2).1
        refine⟨fun _=>⟨?_,ka hargs h2⟩,fun hn=>absurd (zq ρ) hn⟩
        rw[Array.getElem?_append_left (by simpa [zk]using hl)]
        simp[qm,h2]
       refine wp_mono (zas he ih (hd _ ih) c pc _ _ _ hex hpc hv b base w0 w ⟨_,[]⟩ hr0) ?_
       rintro e a' w' ⟨g1,g2,b',g3,g4,g5⟩
       have hret:=T.mapO_at (ρ:=ρ) hr'
       have hx:e= .normal\/e= .ret:=by
        unfold zh1 at hret
        cases hx:(t.at ρ).x with
        |normal=>rw[hx]at g1;exact .inl g1
        |exit id=>rw[hx]at hret;cases hret
        |ret=>rw[hx]at g1;exact .inr g1
       have hres:∃rs,jL P (t.at ρ).st fn.results.toList=some rs/\r'.at ρ=⟨qJ rs,prune nx (qJ rs) (zhW (t.at ρ).st.heap),(t.at ρ).st.next⟩:=by
        unfold zh1 at hret
        split at hret
        ·cases hret
        ·split at hret
         ·rename_i rs hrs
          exact⟨rs,hrs,(Option.some.inj hret).symm⟩
         ·cases hret
       obtain⟨rs,hrs,hcr⟩:=hres
       obtain⟨r1,r2⟩:=mg g4 hrs
       have hcrel:zfn ρ b' base w' (r'.at ρ) ((qJ rs).den ρ b'):=by
        rw[hcr]
        exact⟨rfl,r2,g4.heap.vis.prune nx _⟩
       obtain⟨_,⟨n1,n2,n3⟩,n4⟩:=T.nrmC_ok he (n0:=nx) r' hv0 hcrel
       have hnx:nx<=(r'.at ρ).next:=by rw[hcr];exact g5
       rcases hx with rfl|rfl
       ·exact⟨g2,_,r1,b',by rw[n1],g3,n3,n2,g4.below,g4.base,Nat.le_trans hnx n4⟩
       ·exact⟨g2,_,r1,b',by rw[n1],g3,n3,n2,g4.below,g4.base,Nat.le_trans hnx n4⟩
      ·cases h
     ·cases h
    ·cases h
   ·cases h
end Go.Proofs.YtoakpnoajmngmaaGreatDoor.Sx
namespace Go.Proofs.YtoakpnoajmngmaaGreatDoor.Sx
open Go.RowKit (Below)
mutual
def SV.same:SV->SV->Bool
 | .int k a,.int j c=>decide (k=j)&&a.e.same c.e&&decide (a.lo=c.lo)&&decide (a.hi=c.hi)
 | .bool a,.bool c=>a.same c
 | .nilp,.nilp=>true
 | .ptr n o,.ptr m p=>decide (n=m)&&decide (o=p)
 | .nils,.nils=>true
 | .sl n o l c,.sl m p k d=>decide (n=m)&&decide (o=p)&&decide (l=k)&&decide (c=d)
 | .emp n,.emp m=>decide (n=m)
 | .osl n s l,.osl m t k=>decide (n=m)&&decide (s=t)&&l.e.same k.e&&decide (l.lo=k.lo)&&decide (l.hi=k.hi)
 | .esl n i,.esl m j=>decide (n=m)&&i.same j
 | .optr n s l o,.optr m t k p=>decide (n=m)&&decide (s=t)&&l.e.same k.e&&decide (l.lo=k.lo)&&decide (l.hi=k.hi)&&decide (o=p)
 | .slv n o l,.slv m p k=>decide (n=m)&&decide (o=p)&&l.e.same k.e&&decide (l.lo=k.lo)&&decide (l.hi=k.hi)
 | .nili,.nili=>true
 | .ifc t v,.ifc u x=>decide (t=u)&&v.same x
 | .err a,.err c=>a.e.same c.e&&decide (a.lo=c.lo)&&decide (a.hi=c.hi)
 | .nilf,.nilf=>true
 | .fn f l,.fn g m=>decide (f=g)&&SV.sameL l m
 | .agg l,.agg m=>SV.sameL l m
 | .tup l,.tup m=>SV.sameL l m
 |_,_=>false
def SV.sameL:List SV->List SV->Bool
 |[],[]=>true
 |a::l,c::m=>a.same c&&SV.sameL l m
 |_,_=>false
end
theorem R.ext {a c:R} (h1:a.e=c.e) (h2:a.lo=c.lo) (h3:a.hi=c.hi):a=c:=by cases a;cases c;simp_all
mutual
theorem SV.same_eq:(x y:SV)->x.same y=true->x=y
 | .int k a,y,h=>by
   cases y<;>simp[SV.same]at h
   rw[h.1.1.1,R.ext (E.same_eq h.1.1.2) h.1.2 h.2]
 | .bool a,y,h=>by cases y<;>simp[SV.same]at h;rw[E.same_eq h]
 | .nilp,y,h=>by cases y<;>simp[SV.same]at h;rfl
 | .ptr n o,y,h=>by cases y<;>simp[SV.same]at h;rw[h.1,h.2]
 | .nils,y,h=>by cases y<;>simp[SV.same]at h;rfl
 | .sl n o l c,y,h=>by cases y<;>simp[SV.same]at h;rw[h.1.1.1,h.1.1.2,h.1.2,h.2]
 | .emp n,y,h=>by cases y<;>simp[SV.same]at h;rw[h]
 | .osl n s l,y,h=>by cases y<;>simp[SV.same]at h;rw[h.1.1.1.1,h.1.1.1.2,R.ext (E.same_eq h.1.1.2) h.1.2 h.2]
 | .esl n i,y,h=>by cases y<;>simp[SV.same]at h;rw[h.1,E.same_eq h.2]
 | .optr n s l o,y,h=>by cases y<;>simp[SV.same]at h;rw[h.1.1.1.1.1,h.1.1.1.1.2,R.ext (E.same_eq h.1.1.1.2) h.1.1.2 h.1.2,h.2]
 | .slv n o l,y,h=>by cases y<;>simp[SV.same]at h;rw[h.1.1.1.1,h.1.1.1.2,R.ext (E.same_eq h.1.1.2) h.1.2 h.2]
 | .nili,y,h=>by cases y<;>simp[SV.same]at h;rfl
 | .ifc t v,y,h=>by
   cases y<;>simp[SV.same]at h
   rw[h.1,SV.same_eq v _ h.2]
 | .err a,y,h=>by
   cases y<;>simp[SV.same]at h
   rw[R.ext (E.same_eq h.1.1) h.1.2 h.2]
 | .nilf,y,h=>by cases y<;>simp[SV.same]at h;rfl
 | .fn f l,y,h=>by
   cases y<;>simp[SV.same]at h
   rw[h.1,SV.sameL_eq l _ h.2]
 | .agg l,y,h=>by
   cases y<;>simp[SV.same]at h
   rw[SV.sameL_eq l _ h]
 | .tup l,y,h=>by
   cases y<;>simp[SV.same]at h
   rw[SV.sameL_eq l _ h]
 | .con v,y,h=>by cases y<;>simp[SV.same]at h
theorem SV.sameL_eq:(x y:List SV)->SV.sameL x y=true->x=y
 |[],y,h=>by cases y<;>simp[SV.sameL]at h;rfl
 |a::l,y,h=>by
  cases y with
  |nil=>simp[SV.sameL]at h
  |cons c m=>
   simp[SV.sameL]at h
   rw[SV.same_eq a c h.1,SV.sameL_eq l m h.2]
end
mutual
theorem SV.ok_names {ρ:Env} {N M:Nat->Prop}:(v:SV)->v.ok ρ N->(∀n∈v.names,M n)->v.ok ρ M
 | .int _ _,h,_=>h
 | .bool _,_,_=>trivial
 | .nilp,_,_=>trivial
 | .ptr n _,_,h=>h n (by simp[SV.names])
 | .nils,_,_=>trivial
 | .sl n _ _ _,_,h=>h n (by simp[SV.names])
 | .slv n _ _,h,k=>⟨k n (by simp[SV.names]),h.2⟩
 | .emp _,h,_=>h
 | .osl _ _ _,h,_=>h
 | .optr _ _ _ _,h,_=>h
 | .esl _ _,h,_=>h
 | .nili,_,_=>trivial
 | .ifc _ v,h,k=>SV.ok_names v h k
 | .err _,h,_=>h
 | .nilf,_,_=>trivial
 | .fn _ l,h,k=>SV.okL_names l h k
 | .agg l,h,k=>SV.okL_names l h k
 | .tup l,h,k=>SV.okL_names l h k
 | .con _,_,_=>trivial
theorem SV.okL_names {ρ:Env} {N M:Nat->Prop}:(l:List SV)->SV.okL ρ N l->(∀n∈SV.namesL l,M n)->SV.okL ρ M l
 |[],_,_=>trivial
 |a::l,h,k=>⟨SV.ok_names a h.1 (fun n hn=>k n (by simp[SV.namesL,hn])),SV.okL_names l h.2 (fun n hn=>k n (by simp[SV.namesL,hn]))⟩
end
def jA (o:Oper):List Nat:=(o.after.toList.filter (Region.binds .any)).map fun e=>e.on
def zo3:List Oper->List Nat->List Nat
 |[],acc=>acc
 |o::l,acc=>zo3 l (acc++[(jA o).foldl (fun m e=>Nat.lor m (Nat.lor (Nat.shiftLeft 1 e) (acc[e]?.getD 0))) 0])
structure OR where
 V:St
 U:St
 deriving Inhabited
abbrev RS:=Nat->Option OR
def news (x:OR):List (Nat × HEnt):=ju (fun n e=>if decide (x.V.next<=n)&&decide (n<x.U.next)&&e.blk.own then some e else none) x.U.heap x.U.heap
def wrote (x:OR):List (Nat × List SV):=x.V.heap.filterMap fun y=>
 match zB x.V.heap y.1,zB x.U.heap y.1 with
 |some e,some u=>if e.blk.own&& !(SV.sameL e.blk.cells u.blk.cells)then some (y.1,u.blk.cells)else none
 |_,_=>none
def gone (x:OR):List Nat:=x.V.heap.filterMap fun y=>
 match zB x.V.heap y.1,zB x.U.heap y.1 with
 |some e,none=>if e.blk.own then some y.1 else none
 |_,_=>none
def xG (r:RS) (l:List Nat) (n:Nat):Bool:=l.any fun j=>match r j with
 |some x=>(gone x).contains n
 |none=>false
def ji:List (Nat × List SV)->Nat->Option (List SV)
 |[],_=>none
 |(m,c)::l,n=>match ji l n with
  |some d=>some d
  |none=>if m=n then some c else none
def J8 (r:RS) (j:Nat):List (Nat × List SV):=match r j with
 |some x=>wrote x
 |none=>[]
def xr (r:RS) (l:List Nat):List (Nat × List SV):=l.flatMap (J8 r)
def zmz (r:RS) (j:Nat):List Nat:=match r j with
 |some x=>(news x).map (·.1)
 |none=>[]
def yy (r:RS) (S:St):List Nat->Nat->Option HEnt
 |[],n=>zB S.heap n
 |j::l,n=>match(r j).bind fun x=>zB (news x) n with
  |some e=>some e
  |none=>yy r S l n
def yz (r:RS) (l:List Nat) (n:Nat) (e:HEnt):HEnt:=match ji (xr r l) n with
 |some c=> {e with blk:= {e.blk with cells:=c}}
 |none=>e
def mj (r:RS) (S:St) (l:List Nat) (n:Nat):Option HEnt:=if xG r l n then none else(yy r S l n).map (yz r l n)
def zfo (ops:List Oper) (t:Nat):Option Nat:=ops.findIdx? fun o=>decide (o.dst=some t)
def Zz (r:RS) (ops:List Oper) (S:St) (l:List Nat) (t:Nat):Option Ent:=
 match zfo ops t with
 |some j=>if l.contains j then(r j).bind fun x=>zB x.U.tmps t else zB S.tmps t
 |none=>zB S.tmps t
def zh2 (r:RS) (S:St) (l:List Nat):List Nat:=S.heap.map (·.1)++l.flatMap (zmz r)
def zmA (ops:List Oper) (S:St):List Nat:=S.tmps.map (·.1)++ops.filterMap (·.dst)
def ku (r:RS) (ops:List Oper) (S:St) (l:List Nat) (hide hideT:Nat->Bool) (kt kh:List Nat) (G:List E) (lo:Nat):St where
 tmps:=kt.filterMap fun t=>if hideT t then none else(Zz r ops S l t).map fun e=>(t,e)
 heap:=kh.filterMap fun n=>if hide n then none else(mj r S l n).bind fun e=>if sub e.g G then some (n,e)else none
 next:=lo
 nt:=S.nt
theorem ml {r:RS} {ops:List Oper} {S:St} {l:List Nat} {hide hideT:Nat->Bool} {kt kh:List Nat} {G:List E} {lo:Nat} {t:Nat} {e:Ent} (h:zB (ku r ops S l hide hideT kt kh G lo).tmps t=some e):Zz r ops S l t=some e/\hideT t=false:=by
 have:=zG h
 simp only[ku,List.mem_filterMap]at this
 obtain⟨k,_,hk⟩:=this
 split at hk
 ·cases hk
 ·rename_i hh
  rw[Option.map_eq_some_iff]at hk
  obtain⟨x,hx,hk⟩:=hk
  cases hk
  exact⟨hx,by simpa using hh⟩
theorem kU {r:RS} {ops:List Oper} {S:St} {l:List Nat} {hide hideT:Nat->Bool} {kt kh:List Nat} {G:List E} {lo:Nat} {n:Nat} {e:HEnt} (h:zB (ku r ops S l hide hideT kt kh G lo).heap n=some e):mj r S l n=some e/\hide n=false/\sub e.g G=true:=by
 have:=zG h
 simp only[ku,List.mem_filterMap]at this
 obtain⟨k,_,hk⟩:=this
 split at hk
 ·cases hk
 ·rename_i hh
  rw[Option.bind_eq_some_iff]at hk
  obtain⟨x,hx,hk⟩:=hk
  split at hk
  ·rename_i hs
   cases hk
   exact⟨hx,by simpa using hh,hs⟩
  ·cases hk
end Go.Proofs.YtoakpnoajmngmaaGreatDoor.Sx
