import Derived.Test.YtoakpnoajmngmaaGreatDoorSxMemo
import Derived.Test.YtoakpnoajmngmaaGreatDoorWgPl
import Derived.Test.YtoakpnoajmngmaaGreatDoorProg
import Derived.Test.YtoakpnoajmngmaaGreatDoorErr
set_option linter.unusedVariables false
set_option linter.unusedSimpArgs false
namespace Go.Proofs.YtoakpnoajmngmaaGreatDoor.Sx
open Go.RowKit
def wP (n s:Nat) (g:Nat->Nat->Value):List Value:=(List.range (n*s)).map fun q=>g (q/s) (q%s)
theorem gK {n s:Nat} {g:Nat->Nat->Value} {i j:Nat} (hi:i<n) (hj:j<s):(wP n s g)[i*s+j]? =some (g i j):=by
 have h1:i*s+j<n*s:=by
  have:(i+1)*s<=n*s:=Nat.mul_le_mul_right s hi
  rw[Nat.add_mul,Nat.one_mul]at this
  omega
 have h2:(i*s+j)/s=i:=by rw[Nat.mul_comm,Nat.mul_add_div (by omega),Nat.div_eq_of_lt hj,Nat.add_zero]
 have h3:(i*s+j)%s=j:=by rw[Nat.mul_comm,Nat.mul_add_mod,Nat.mod_eq_of_lt hj]
 rw[wP,List.getElem?_map,List.getElem?_range h1,Option.map_some,h2,h3]
theorem yi {n s:Nat} {g:Nat->Nat->Value} {q:Nat} {v:Value} (h:(wP n s g)[q]? =some v):q/s<n/\q%s<s/\v=g (q/s) (q%s)/\q=q/s*s+q%s:=by
 rw[wP,List.getElem?_map,Option.map_eq_some_iff]at h
 obtain⟨x,hx,rfl⟩:=h
 rw[List.getElem?_eq_some_iff]at hx
 obtain⟨hl,rfl⟩:=hx
 rw[List.length_range]at hl
 rw[List.getElem_range]
 have hs:0<s:=by
  rcases Nat.eq_zero_or_pos s with h0|h0
  ·subst h0;omega
  ·exact h0
 exact⟨(Nat.div_lt_iff_lt_mul hs).2 hl,Nat.mod_lt _ hs,rfl,by rw[Nat.mul_comm];exact(Nat.div_add_mod q s).symm⟩
structure GD where
 A:Option Addr
 c:Nat
 n:Nat
 ks:List Bool
 fi:Nat->Nat->Int
 fb:Nat->Nat->Bool
def GD.val (g:GD) (i j:Nat):Value:=match g.ks[j]? with
 |some true=> .int .i64 (g.fi i j)
 |_=> .bool (g.fb i j)
structure GD.ok (g:GD) (w:World):Prop where
 n:g.n<=9223372036854775807
 cell:∀i j,i<g.n->j<g.ks.length->∃bl off,g.A=some ⟨bl,off,none⟩/\bl<w.heap.size/\w.cell? ⟨bl,off+(i*g.ks.length+j),none⟩=some (g.val i j)
 b64:∀i j,B64 (g.fi i j)
def GD.none:GD:=⟨Option.none,0,0,[],fun _ _=>0,fun _ _=>false⟩
theorem GD.none_ok (w:World):GD.none.ok w:=⟨by decide,fun _ _ h=>absurd h (Nat.not_lt_zero _),fun _ _=>(by show B64 0;unfold B64;omega)⟩
def vN:Bool->CK
 |true=> .int .i64 (-9223372036854775808) 9223372036854775807
 |false=> .bool
def ja (et:TypeId) (iv:Nat->Int) (bv:Nat->Bool) (fn:Nat->List Int->Int) (fb:Nat->List Int->Bool) (fl:Nat->List Int->List Int) (G:Nat->GD):Env where
 iv:=iv
 bv:=bv
 fn:=fun id l=>if 1000<=id then(G ((id-1000)/100)).fi (l.headD 0).toNat (id%100)else fn id l
 fb:=fun id l=>if 1000<=id then(G ((id-1000)/100)).fb (l.headD 0).toNat (id%100)else fb id l
 et:=et
 ov:=fun k=>((G k).A,(G k).c)
 fl:=fl
 mv:=fun k=>wP (G k).n (G k).ks.length (G k).val
 ol:=fun k=>(G k).n
theorem wQ {et:TypeId} {iv:Nat->Int} {bv:Nat->Bool} {fn:Nat->List Int->Int} {fb:Nat->List Int->Bool} {fl:Nat->List Int->List Int} {G:Nat->GD} {w:World} (h:∀k,(G k).ok w):Mem (ja et iv bv fn fb fl G) (· <w.heap.size) w:=by
 refine⟨?_,fun k i q v hv=>by cases hv⟩
 intro k i v hv
 obtain⟨h1,h2,h3,h4⟩:=yi hv
 obtain⟨bl,off,e1,e2,e3⟩:=(h k).cell _ _ h1 h2
 exact⟨bl,off,e1,e2,by rw[h4,h3];exact e3⟩
theorem zbV {et:TypeId} {iv:Nat->Int} {bv:Nat->Bool} {fn:Nat->List Int->Int} {fb:Nat->List Int->Bool} {fl:Nat->List Int->List Int} {G:Nat->GD} {w:World} (h:∀k,(G k).ok w) {k i:Nat} (hi:i<(G k).n) (hks:(G k).ks.length<=100):CK.elem (ja et iv bv fn fb fl G) ((G k).ks.map vN) k i:=by
 intro j c hc
 rw[List.getElem?_map,Option.map_eq_some_iff]at hc
 obtain⟨x,hx,rfl⟩:=hc
 have hj:=(List.getElem?_eq_some_iff.1 hx).1
 have e1:1000<=CK.fid k j:=by unfold CK.fid;omega
 have e2:(CK.fid k j-1000)/100=k:=by unfold CK.fid;omega
 have e3:CK.fid k j%100=j:=by unfold CK.fid;omega
 rw[List.length_map]
 refine⟨?_,?_⟩
 ·show(wP (G k).n (G k).ks.length (G k).val)[i*(G k).ks.length+j]? =_
  rw[gK hi hj]
  congr 1
  unfold GD.val
  rw[hx]
  cases x<;>simp[vN,CK.val,ja,e1,e2,e3]
 ·cases x
  ·trivial
  ·have:=(h k).b64 i j
   unfold B64 at this
   simpa [vN,CK.fits,ja,e1,e2,e3]using this
theorem yj {et:TypeId} {iv:Nat->Int} {bv:Nat->Bool} {fn:Nat->List Int->Int} {fb:Nat->List Int->Bool} {fl:Nat->List Int->List Int} {G:Nat->GD} {w:World} (h:∀k,(G k).ok w) {k m:Nat} {sh:List CK} (hsh:(G k).ks.map vN=sh) (hm:iv m=(G k).n) (hks:(G k).ks.length<=100) (N:Nat->Prop) (b:Bd):
  (SV.osl k sh ⟨.v m,0,9223372036854775807⟩).ok (ja et iv bv fn fb fl G) N/\(SV.osl k sh ⟨.v m,0,9223372036854775807⟩).den (ja et iv bv fn fb fl G) b= .slice (G k).A (G k).n (G k).c:=by
 subst hsh
 have hv:(ja et iv bv fn fb fl G).iv m=(G k).n:=hm
 refine⟨⟨⟨?_,?_⟩,Int.le_refl _,fun i hi=>?_,hv⟩,?_⟩
 ·simp only[E.i,hv];omega
 ·have:=(h k).n;simp only[E.i,hv];omega
 ·simp only[E.i,hv]at hi
  exact zbV h (by omega) hks
 ·simp only[SV.den,E.i,ja,hm,Int.toNat_natCast]
end Go.Proofs.YtoakpnoajmngmaaGreatDoor.Sx
namespace Go.Proofs.YtoakpnoajmngmaaGreatDoor.Sx
open Go.RowKit
theorem zz {ρ ρ':Env} (h:Same ρ ρ' [] []) {n:Nat} (hn:Nat.blt n 1000=true):ρ'.iv n=ρ.iv n:=h.iv n (.inl (kv hn))
theorem Z9 {ρ ρ':Env} (h:Same ρ ρ' [] []) {n:Nat} (hn:Nat.blt n 1000=true):ρ'.bv n=ρ.bv n:=h.bv n (.inl (kv hn))
theorem zg {ρ:Env} {r:R} {z:Int} (h1:r.e.i ρ=z) (h2:r.lo<=z) (h3:z<=r.hi):r.fit ρ:=by unfold R.fit;rw[h1];exact⟨h2,h3⟩
end Go.Proofs.YtoakpnoajmngmaaGreatDoor.Sx
namespace Go.Proofs.YtoakpnoajmngmaaGreatDoor.Sx
open Go.RowKit
def R.in64 (r:R):Bool:=decide (-9223372036854775808<=r.lo)&&decide (r.hi<=9223372036854775807)
theorem R.in64_ok {r:R} (h:r.in64=true) {ρ:Env} (hr:r.ok ρ):B64 (r.e.i ρ):=by
 simp only[R.in64,Bool.and_eq_true,decide_eq_true_eq]at h
 have h1:=hr.1
 have h2:=hr.2
 unfold B64
 omega
def zb (k:FuncId) (p:List SV->Option (List E × SV)):zl:=fun pc f args H nx=>
 if Nat.beq f k then match p args with
  |some (gs,v)=>some (.leaf ⟨v,H,nx⟩,gs.map fun g=>⟨pc,g⟩)
  |none=>none
 else none
theorem zo {P:Program} {ρ:Env} {k:FuncId} {p:List SV->Option (List E × SV)}
  (h:∀args gs v,p args=some (gs,v)->(∀g∈gs,g.b ρ=true)->∀b base w N,SV.okL ρ N args->Mem ρ base w->(∀k,base k->k<w.heap.size)->Calls P k (SV.denL ρ b args).toArray w fun e w'=>e= .returned (v.den ρ b)/\v.ok ρ N/\Below w.heap.size w w'):HOK P ρ (zb k p):=by
 intro pc f args H nx r vs hs hpc hv b base w0 w hH hmem hbel hbase hargs
 unfold zb at hs
 split at hs
 ·rename_i hk
  have:=Nat.eq_of_beq_eq_true hk
  subst this
  split at hs
  ·rename_i gs v hp
   cases hs
   have hg:∀g∈gs,g.b ρ=true:=fun g hg=>hv ⟨pc,g⟩ (List.mem_map.2 ⟨g,hg,rfl⟩) hpc
   refine(h args gs v hp hg b base w _ hargs (hmem.kept hbel) hbase).mono ?_
   rintro e w' ⟨h1,h2,h3⟩
   exact⟨b,h1,zM.refl b _,hH.mono (zM.refl b _) (fun _ h=>h) (fun k hk=>h3.block k hk) hbase,h2,hbel.trans ((Kept.of h3).mono hbase),fun k hk=>Nat.lt_of_lt_of_le (hbase k hk) h3.size,Nat.le_refl _⟩
  ·cases hs
 ·cases hs
structure ND where
 A:Option Addr
 c:Nat
 n:Nat
 g:Nat->GD
structure ND.ok (d:ND) (w:World) (ks:List Bool):Prop where
 n:d.n<=9223372036854775807
 cell:∀i,i<d.n->∃bl off,d.A=some ⟨bl,off,none⟩/\bl<w.heap.size/\w.cell? ⟨bl,off+i,none⟩=some (.slice (d.g i).A (d.g i).n (d.g i).c)
 g:∀i,(d.g i).ok w/\(d.g i).ks=ks
end Go.Proofs.YtoakpnoajmngmaaGreatDoor.Sx
namespace Go.Proofs.YtoakpnoajmngmaaGreatDoor.Sx
open Go.RowKit
def jn (k:FuncId) (p:List SV->List (Nat × HEnt)->Option (List E × SV)):zl:=fun pc f args H nx=>
 if Nat.beq f k then match p args H with
  |some (gs,v)=>some (.leaf ⟨v,H,nx⟩,gs.map fun g=>⟨pc,g⟩)
  |none=>none
 else none
theorem yM {P:Program} {ρ:Env} {k:FuncId} {p:List SV->List (Nat × HEnt)->Option (List E × SV)}
  (h:∀args H gs v,p args H=some (gs,v)->(∀g∈gs,g.b ρ=true)->∀b base w N,HRel ρ b base w H N->SV.okL ρ N args->Mem ρ base w->(∀k,base k->k<w.heap.size)->Calls P k (SV.denL ρ b args).toArray w fun e w'=>e= .returned (v.den ρ b)/\v.ok ρ N/\Below w.heap.size w w'):HOK P ρ (jn k p):=by
 intro pc f args H nx r vs hs hpc hv b base w0 w hH hmem hbel hbase hargs
 unfold jn at hs
 split at hs
 ·rename_i hk
  have:=Nat.eq_of_beq_eq_true hk
  subst this
  split at hs
  ·rename_i gs v hp
   cases hs
   have hg:∀g∈gs,g.b ρ=true:=fun g hg=>hv ⟨pc,g⟩ (List.mem_map.2 ⟨g,hg,rfl⟩) hpc
   refine(h args H gs v hp hg b base w _ hH hargs (hmem.kept hbel) hbase).mono ?_
   rintro e w' ⟨h1,h2,h3⟩
   exact⟨b,h1,zM.refl b _,hH.mono (zM.refl b _) (fun _ h=>h) (fun k hk=>h3.block k hk) hbase,h2,hbel.trans ((Kept.of h3).mono hbase),fun k hk=>Nat.lt_of_lt_of_le (hbase k hk) h3.size,Nat.le_refl _⟩
  ·cases hs
 ·cases hs
def gM (ty:TypeId) (n0:Nat) (w':World) (L:List Int) (v:Value):Prop:=
 ∃bl c,∃arr:Array Value,v= .slice (some ⟨bl,0,none⟩) L.length c/\n0<=bl/\w'.heap[bl]? =some (.cells arr ty (0,0))/\arr.size=c/\L.length<=arr.size/\∀(i:Nat) (x:Int),L[i]? =some x->arr[i]? =some (.int .i64 x)
theorem HRel.newList {ρ:Env} {b:Bd} {base:Nat->Prop} {w w':World} {H:List (Nat × HEnt)} {nx:Nat} (h:HRel ρ b base w H (· <nx)) (hbase:(∀k,base k->k<w.heap.size)) (hbel:Below w.heap.size w w') {ty:TypeId} {rs:List R} {v:Value} (hv:gM ty w.heap.size w' (rs.map fun r=>r.e.i ρ) v) (hr:∀r∈rs,r.ok ρ):
  ∃b',v=(SV.sl nx 0 rs.length none).den ρ b'/\zM b b' (· <nx)/\HRel ρ b' base w' (push H nx ⟨[],⟨rs.map (.int .i64),ty,.grow 1⟩⟩) (· <nx+1):=by
 obtain⟨bl,c,arr,rfl,h1,h2,h3,h4,h5⟩:=hv
 have hn:¬(nx<nx):=Nat.lt_irrefl _
 have ha:zM b (b.put nx bl 0 c) (· <nx):=Bd.put_agree b _ _ _ hn
 have hm:=h.mono (w':=w') (M:=(· <nx+1)) ha (fun n h=>Nat.lt_succ_of_lt h) (fun k hk=>hbel.block k hk) hbase
 have hput:(b.put nx bl 0 c).β nx=bl:=by simp[Bd.put]
 have hk:SV.okL ρ (· <nx+1) (rs.map (.int .i64)):=(qo _ _ _).2 fun v hv=>by
  obtain⟨r,hr',rfl⟩:=List.mem_map.1 hv
  exact hr r hr'
 refine⟨b.put nx bl 0 c,by simp[SV.den,Bd.put],ha,?_,?_⟩
 ·intro n e hf hg
  rw[qF]at hf
  split at hf
  ·rename_i hnn
   subst hnn
   cases hf
   refine⟨Nat.lt_succ_self _,⟨by simp[Bd.put],by rw[hput];exact fun hc=>by have:=hbase _ hc;omega,arr,by rw[hput];exact h2,by simp[Bd.put,h3],by simpa using h4,fun i v hi=>?_⟩,hk⟩
   simp only[List.getElem?_map]at hi
   cases hg':rs[i]? with
   |none=>rw[hg']at hi;cases hi
   |some r=>
    rw[hg']at hi
    cases hi
    rw[h5 i (r.e.i ρ) (by simp[hg'])]
    simp only[SV.den]
  ·exact hm.mem n e hf hg
 ·intro n m e k hf hkf hg hgk ho hok heq
  rw[qF]at hf hkf
  split at hf
  ·rename_i hnn
   subst hnn
   split at hkf
   ·rename_i hmm;exact hmm
   ·exfalso
    obtain⟨h1',h2',_⟩:=h.mem m k hkf hgk
    have h3':=(ha m h1').1
    rw[hput]at heq
    rw[h3']at heq
    have:=(h2'.base hok).2.1
    omega
  ·split at hkf
   ·rename_i hmm
    subst hmm
    exfalso
    obtain⟨h1',h2',_⟩:=h.mem n e hf hg
    have h3':=(ha n h1').1
    rw[hput,h3']at heq
    have:=(h2'.base ho).2.1
    omega
   ·exact hm.inj n m e k hf hkf hg hgk ho hok heq
end Go.Proofs.YtoakpnoajmngmaaGreatDoor.Sx
namespace Go.Proofs.YtoakpnoajmngmaaGreatDoor.Sx
open Go.RowKit
def eL:List E->E
 |[]=> .nil
 |a::l=> .cons a (eL l)
def nE (n:Nat):E:= .c n
def kE (id:Nat):E:= .ap id .nil
def kI (id:Nat) (lo hi:Int):SV:= .int .i64 ⟨kE id,lo,hi⟩
def kB (id:Nat):SV:= .bool (kE id)
def zer (e:E):E:= .bin .eq e (.c 0)
def jv:List E->List E->Bool
 |[],[]=>true
 |a::l,b::m=>a.same b&&jv l m
 |_,_=>false
def ze1:E->Option Nat
 | .c z=>if 0<=z then some z.toNat else none
 |_=>none
def ziD (l s:Nat):Bool:=(decide (s<3)&&(decide (l=1)||decide (l=2)||decide (l=8)))||(decide (s=3)&&decide (16<=l)&&decide (l<=45))
def qs (N:Nat->Nat):List Nat:=(List.range 8).filter fun q=>decide (q%4<N (q/4))
def nmE (e:E):E:=if e.big ziK then .v (zal e)else e
def x (k j:Nat):E:= .v (20+20*k+j)
def zna (n:Nat) (e:E):E:=if n=2 then e else .bin .mul (.c (n-1)) e
def JC (k n:Nat):E:=zna n (x k 5)
def zbW (k n:Nat):E:=zna n (x k 6)
def zgp (k:Nat):E:= .bin .add (x k 3) (x k 7)
def znO (l s:Nat):Nat:=if s<3 then 400+2*(3*(if l=8 then 2 else l-1)+s)else 400+2*(9+(l-16))
def zbX (l s:Nat):E:=kE (znO l s)
def XF (l s:Nat):E:=kE (znO l s+1)
def JD (k:Nat):Nat:=if k=2 then 8 else 1+k
def zkY (k:Nat):List E:=[.v (110+10*k),.v (111+10*k),.v (112+10*k),.bv (113+10*k),.bv (114+10*k),.bv (115+10*k),.v (116+10*k)]
def ze2 (k:Nat):List E:=if k=2 then[.v 60,.v 61]else[x k 8,x k 9]
def ziE (k:Nat):List E:=[x k 5,x k 6,x k 7,x k 10]
def ze3 (k n:Nat):List E:=[x k 0,x k 1,x k 2,zgp k,JC k n,zbW k n]
def zbY (k n:Nat):List E:=[x k 0,x k 1,x k 11,x k 12,JC k n,nE (2*k),nE (2*k+1)]
def vtE (k j:Nat):E:=kE (200+10*k+j)
def wtE (k j i:Nat):E:=kE (240+3*(4*k+j)+i)
def plE (k j:Nat):E:=kE (320+4*k+j)
def zkZ (k n:Nat):List E:=(List.range n).flatMap fun j=>[wtE k j 0,wtE k j 1,wtE k j 2]
def znP (k n:Nat):List E:=(List.range n).flatMap fun j=>[plE k j,wtE k j 1,wtE k j 2]
def qR (k:Nat):Nat->E
 |0=> .c 0
 |1=> .ite (.un .not (wtE k 0 2)) (.c 1) (.c 0)
 |n+1=> .ite (.un .not (wtE k n 2)) (.bin .add (nmE (qR k n)) (.c 1)) (qR k n)
def W7:E:= .bin .max (kE 270) (kE 271)
def znb:E:= .ite (.bin .eq (XF 40 3) (.c 1)) W7 (.bin .max (.v 170) W7)
def XG:E:=nmE znb
def znc (k:Nat):List E:=[kE (312+k),vtE k 6,vtE 2 6,XG,kE (310+k)]
def ze4 (k:Nat):List E:=[.v (150+10*k),.v (151+10*k),.v (152+10*k)]
def zk0 (k:Nat):List E:=[kE (291+3*k),kE (292+3*k),XG]
def loE (k n:Nat):E:= .bin .sub (kE (310+k)) (zbW k n)
def hiE (k n:Nat):E:= .bin .add (kE (310+k)) (zbW k n)
def kO:E:= .bin .le XG (.c 1)
def ze5 (e:E):E:= .bin .sub (.c 0) e
def W8 (k j:Nat):E:= .ite (wtE k j 2) (.c 0) (.c 3)
def yk:E:=kE 500
def gN:BK:= .row 900
def km (f:Nat->List E) (l:List E):List Nat->Option Nat
 |[]=>none
 |k::r=>if jv l (f k)then some k else km f l r
def ziF (l s:Nat):SV:= .agg [.bool (zbX l s),.int .i64 ⟨XF l s,-1000000,1000000⟩]
def znd (H:List (Nat × HEnt)) (v:SV):Bool:=match v with
 | .slv n 0 len=>match zB H n with
   |some ⟨[],⟨[],_,k⟩⟩=>decide (k=gN)&&len.e.same yk
   |_=>false
 |_=>false
def Qa (e:Bool) (args:List SV) (H:List (Nat × HEnt)):Option (List E × SV):=match args with
 |[.nils,.int .i64 l,.int .i64 s]=>match ze1 l.e,ze1 s.e with
  |some l,some s=>if e&&ziD l s then some ([],ziF l s)else none
  |_,_=>none
 |[v,.int .i64 l,.int .i64 s]=>match znd H v,ze1 l.e,ze1 s.e with
  |true,some l,some s=>if ziD l s then some ([],ziF l s)else none
  |_,_,_=>none
 |_=>none
def Ya (args:List SV) (H:List (Nat × HEnt)):Option (List E × SV):=match args with
 |[.ptr n 0,.int .i64 l,.int .i64 s]=>match zB H n,ze1 l.e,ze1 s.e with
  |some ⟨[],⟨cells,_,.full⟩⟩,some l,some s=>match cells[62]? with
   |some v=>if znd H v&&ziD l s then some ([],ziF l s)else none
   |none=>none
  |_,_,_=>none
 |_=>none
def xp:R:=⟨yk,0,64⟩
def Qb:R:=⟨kE 501,0,64⟩
def Yb:zl:=fun _ f args H nx=>
 if Nat.beq f 35 then match args with
  |[.osl 6 [] r]=>if decide (r.hi<=64)then some (.leaf ⟨.tup [.slv nx 0 xp,.int .i64 Qb,.nili],push H nx ⟨[],⟨[],136,gN⟩⟩,nx+1⟩,[])else none
  |_=>none
 else none
def wR (e:Bool):zl:=fun _ f args H nx=>
 if Nat.beq f 26 then match args with
  |[.osl 6 [] r]=>if decide (r.hi<=64)then some (.leaf (if e then⟨.tup [.nils,.int .i64 Qb],H,nx+1⟩else⟨.tup [.slv nx 0 xp,.int .i64 Qb],push H nx ⟨[],⟨[],136,gN⟩⟩,nx+1⟩),[])else none
  |_=>none
 else none
def zk1 (k:Nat):List E:=zkY k++ze2 k++[zbX (JD k) 0,XF (JD k) 0,zbX (JD k) 1,XF (JD k) 1,zbX (JD k) 2,XF (JD k) 2]
def zgq (k:Nat):List SV:=[.agg [kI (200+10*k) 0 10,kI (201+10*k) 0 10,kI (202+10*k) 0 10,kB (203+10*k),kB (204+10*k),kB (205+10*k),kI (206+10*k) (-1000000) 1000000],.agg [kI (206+10*k) (-1000000) 1000000,kI (207+10*k) 0 3]]
def Vi (tail:List SV) (args:List SV):Option (List E × SV):=match args with
 |[.agg [.int .i64 b0,.int .i64 b1,.int .i64 b2,.bool o0,.bool o1,.bool o2,.int .i64 la],.agg [.int .i64 li,.int .i64 co],.agg [.bool t0,.int .i64 x0,.bool t1,.int .i64 x1,.bool t2,.int .i64 x2]]=>
  match km zk1 [b0.e,b1.e,b2.e,o0,o1,o2,la.e,li.e,co.e,t0,x0.e,t1,x1.e,t2,x2.e] [0,1,2]with
  |some k=>some ([],.tup (zgq k++tail))
  |none=>none
 |_=>none
def zk2 (k:Nat):List E:=[vtE k 3,vtE k 4,vtE k 5]
def Yc (args:List SV):Option (List E × SV):=match args with
 |[.agg [.int .i64 _,.int .i64 _,.int .i64 _,.bool o0,.bool o1,.bool o2,.int .i64 _]]=>match km zk2 [o0,o1,o2] [0,1,2]with
  |some k=>some ([],kI (230+k) 0 3)
  |none=>none
 |_=>none
def svE (k j:Nat):List E:=[.ap (1400+100*k) (.cons (nE j) .nil),.ap (1401+100*k) (.cons (nE j) .nil),.ap (1402+100*k) (.cons (nE j) .nil)]
def ze6 (q:Nat):List E:=ziE (q/4)++svE (q/4) (q%4)++[zbX (16+q) 3,XF (16+q) 3]
def Zk (N:Nat->Nat) (mk:SV->SV) (args:List SV):Option (List E × SV):=match args with
 |[.agg [.int .i64 t,.int .i64 r,.int .i64 s,.int .i64 c],.agg [.int .i64 i,.int .i64 b,.bool o],.agg [.bool th,.int .i64 x]]=>
  match km ze6 [t.e,r.e,s.e,c.e,i.e,b.e,o,th,x.e] (qs N)with
  |some q=>some ([],mk (.agg [.int .i64 ⟨wtE (q/4) (q%4) 0,-1000,1000⟩,.int .i64 ⟨wtE (q/4) (q%4) 1,0,10⟩,.bool (wtE (q/4) (q%4) 2)]))
  |none=>none
 |_=>none
def W9 (N:Nat->Nat) (k:Nat):List E:=[kE (230+k),qR k (N k),nE (N k)]
def vB (N:Nat->Nat) (chk:Bool) (args:List SV):Option (List E × SV):=match args with
 |[.agg [.int .i64 ch,.int .i64 so,.int .i64 su]]=>match km (W9 N) [ch.e,so.e,su.e] [0,1]with
  |some k=>some ([],if chk then .nili else kI (270+k) 0 3)
  |none=>none
 |_=>none
def ziG:List SV->Option (List E)
 |[]=>some []
 | .int .i64 i:: .int .i64 b:: .bool o::l=>(ziG l).map fun r=>i.e::b.e::o::r
 |_=>none
def zbZ (H:List (Nat × HEnt)) (v:SV):Option (List E):=match v with
 | .sl n 0 len _=>match zB H n with
   |some ⟨[],⟨cells,_,_⟩⟩=>if decide (cells.length=3*len)then ziG cells else none
   |_=>none
 |_=>none
def zpy (N:Nat->Nat) (q:Nat):List E:=if q<2 then zkZ q (N q)else znP (q-2) (N (q-2))
def ziH (N:Nat->Nat) (args:List SV) (H:List (Nat × HEnt)):Option (List E × SV):=match args with
 |[s]=>match zbZ H s with
  |some l=>match km (zpy N) l [0,1,2,3]with
   |some q=>some ([],kI (280+q) (-4000) 4000)
   |none=>none
  |none=>none
 |_=>none
def zk3 (N:Nat->Nat) (k:Nat):List E:=zbY k (N k)++ze4 k++znc k
def Vj (N:Nat->Nat) (tail:List SV) (args:List SV):Option (List E × SV):=match args with
 |[.agg [.int .i64 lo,.int .i64 hi,.int .i64 tu,.int .i64 bu,.int .i64 mo,.osl g [.int .i64 _ _] _,.osl d [.int .i64 _ _] _],.agg [.int .i64 aim,.int .i64 held,.int .i64 law],.agg [.int .i64 st,.int .i64 is,.int .i64 sp,.int .i64 al,.int .i64 pr]]=>
  match km (zk3 N) [lo.e,hi.e,tu.e,bu.e,mo.e,nE g,nE d,aim.e,held.e,law.e,st.e,is.e,sp.e,al.e,pr.e] [0,1]with
  |some k=>some ([],.tup ([kI (290+3*k) (-4000) 4000,.agg [kI (291+3*k) (-100000) 100000,kI (292+3*k) (-4000) 4000,.int .i64 ⟨XG,0,3⟩]]++tail))
  |none=>none
 |_=>none
def Ma (N:Nat->Nat) (k:Nat):List E:=ze3 k (N k)++[vtE k 6,kE (310+k)]
def gP (N:Nat->Nat) (mk:SV->SV) (args:List SV):Option (List E × SV):=match args with
 |[.agg [.int .i64 lo,.int .i64 hi,.int .i64 no,.int .i64 pu,.int .i64 mo,.int .i64 ra],.int .i64 x,.int .i64 pr]=>match km (Ma N) [lo.e,hi.e,no.e,pu.e,mo.e,ra.e,x.e,pr.e] [0,1]with
  |some k=>some ([],mk (.agg [kI (300+2*k) (-4000) 4000,kI (301+2*k) (-4000) 4000]))
  |none=>none
 |_=>none
def toE (k:Nat):E:= .ite kO (kE (314+k)) (kE (316+k))
def toP (k:Nat):E:=nmE (.ite (.bin .or (.bin .eq XG (.c 0)) (.bin .eq XG (.c 1))) (kE (314+k)) (kE (316+k)))
def zk4 (N:Nat->Nat) (q:Nat):List E:=let k:=q%2;let n:=N k
 match q/2 with
 |0=>[kE (280+k),ze5 (JC k n),JC k n]
 |1=>[XF (32+k) 3,.c (-100),.c 100]
 |2=>[kE (290+3*k),kE (300+2*k),kE (301+2*k)]
 |3=>[kE (290+3*k),loE k n,hiE k n]
 |_=>[kE (290+3*k),nmE (.ite kO (kE (300+2*k)) (loE k n)),nmE (.ite kO (kE (301+2*k)) (hiE k n))]
def zgr (q:Nat):SV:=let k:=q%2
 match q/2 with
 |0=>kI (310+k) (-3000) 3000
 |1=>kI (312+k) (-100) 100
 |2=>kI (314+k) (-10000) 10000
 |3=>kI (316+k) (-10000) 10000
 |_=> .int .i64 ⟨toE k,-10000,10000⟩
def Vk (N:Nat->Nat) (args:List SV):Option (List E × SV):=match args with
 |[.int .i64 x,.int .i64 lo,.int .i64 hi]=>match km (zk4 N) [x.e,lo.e,hi.e] [0,1,2,3,4,5,6,7,8,9]with
  |some q=>some ([],zgr q)
  |none=>none
 |_=>none
def Mb (N:Nat->Nat) (q:Nat):List E:=let k:=q%2
 ziE k++[if q<2 then toE k else toP k]++zkZ k (N k)
def gQ (N:Nat->Nat) (fn:FuncId) (err:Bool):zl:=fun _ f args H nx=>
 if Nat.beq f fn then match args with
  |[.agg [.int .i64 t,.int .i64 r,.int .i64 s,.int .i64 c],v,.int .i64 x]=>match zbZ H v with
   |some l=>match km (Mb N) ([t.e,r.e,s.e,c.e,x.e]++l) [0,1,2,3]with
    |some q=>let k:=q%2
     let sv:SV:= .sl nx 0 (N k) none
     some (.leaf ⟨if err then .tup [sv,.nili]else sv,push H nx ⟨[],⟨(List.range (N k)).map fun j=> .int .i64 ⟨plE k j,-1000,1000⟩,3,.grow 1⟩⟩,nx+1⟩,[])
    |none=>none
   |none=>none
  |_=>none
 else none
def zk5 (q:Nat):List E:=ziE (q/4)++[wtE (q/4) (q%4) 0,wtE (q/4) (q%4) 1,wtE (q/4) (q%4) 2,plE (q/4) (q%4)]
def zgs (N:Nat->Nat) (args:List SV):Option (List E × SV):=match args with
 |[.agg [.int .i64 t,.int .i64 r,.int .i64 s,.int .i64 c],.agg [.int .i64 i,.int .i64 b,.bool o],.int .i64 to]=>match km zk5 [t.e,r.e,s.e,c.e,i.e,b.e,o,to.e] (qs N)with
  |some q=>some ([],.tup [.agg [.int .i64 ⟨plE (q/4) (q%4),-1000,1000⟩,.int .i64 ⟨wtE (q/4) (q%4) 1,0,10⟩,.bool (wtE (q/4) (q%4) 2)],.nili])
  |none=>none
 |_=>none
def zk6 (N:Nat->Nat) (k:Nat):List E:=zbY k (N k)++zk0 k++znc k++[kE (290+3*k),kE (282+k)]
def Vl (N:Nat->Nat) (mk:SV->SV) (args:List SV):Option (List E × SV):=match args with
 |[.agg [.int .i64 lo,.int .i64 hi,.int .i64 tu,.int .i64 bu,.int .i64 mo,.osl g [.int .i64 _ _] _,.osl d [.int .i64 _ _] _],.agg [.int .i64 aim,.int .i64 held,.int .i64 law],.agg [.int .i64 st,.int .i64 is,.int .i64 sp,.int .i64 al,.int .i64 pr],.int .i64 want,.int .i64 got]=>
  match km (zk6 N) [lo.e,hi.e,tu.e,bu.e,mo.e,nE g,nE d,aim.e,held.e,law.e,st.e,is.e,sp.e,al.e,pr.e,want.e,got.e] [0,1]with
  |some k=>some ([],mk (.agg [kI (291+3*k) (-100000) 100000,kI (330+k) (-4000) 4000,.int .i64 ⟨XG,0,3⟩]))
  |none=>none
 |_=>none
def zgt (q:Nat):List E:=if q=8 then[.c 80,.c 3,.c 3,XG]else[nE (64+q),.c 3,W8 (q/4) (q%4),plE (q/4) (q%4)]
def Vm (N:Nat->Nat) (mk:SV->SV) (args:List SV):Option (List E × SV):=match args with
 |[.agg [.int .i64 l,.int .i64 s,.int .i64 t,.int .i64 d]]=>match km zgt [l.e,s.e,t.e,d.e] (8::qs N)with
  |some q=>some ([],mk (.int .u32 ⟨kE (340+q),0,4294967295⟩))
  |none=>none
 |_=>none
def okT (v:SV):SV:= .tup [v,.nili]
def ors:List zl->zl
 |[]=>jS
 |h::t=>zF h (ors t)
def fsG (e:Bool):zl:=zF (wR e) (jn 31 (Qa e))
def fsR (N:Nat->Nat):zl:=ors [zb 62 (Vi []),zb 29 Yc,zb 30 (Zk N id),zb 32 (vB N false),jn 66 (ziH N),zb 67 (Vj N []),
 zb 68 (gP N id),gQ N 69 false,zb 70 (Vl N id),zb 55 (Vm N id),zb 65 (Vk N)]
def fsP (N:Nat->Nat):zl:=ors [Yb,jn 40 Ya,zb 74 (Vi [.nili]),zb 75 Yc,zb 76 (Zk N okT),zb 78 (vB N false),zb 77 (vB N true),jn 81 (ziH N),zb 82 (Vj N [.nili]),
 zb 114 (gP N okT),gQ N 85 true,zb 86 (zgs N),zb 87 (Vl N okT),zb 120 (Vm N okT),zb 80 (Vk N)]
def zk7 (N:Nat->Nat):zl:=zF (fsR N) (fsP N)
def nR (n:Nat):R:=⟨.c n,n,n⟩
def vi (n:Nat) (lo hi:Int):SV:= .int .i64 ⟨.v n,lo,hi⟩
def qS (k n:Nat):SV:= .osl k [.int .i64 (-9223372036854775808) 9223372036854775807] ⟨.v n,0,20⟩
def qn (k n:Nat):List SV:=let b:=20+20*k
 [vi b (-100000) 0,vi (b+1) 0 100000,vi (b+2) 0 1000,vi (b+3) 0 1000,.int .i64 (nR n),vi (b+5) 1 1000,vi (b+6) 1 1000,vi (b+7) 0 1000,vi (b+8) 0 1000000,vi (b+9) 1 10,vi (b+10) 1 10,vi (b+11) 0 1000,qS (2*k) (100+2*k),qS (2*k+1) (101+2*k),vi (b+12) 0 65536]
def gR (N:Nat->Nat):SV:= .agg (qn 0 (N 0)++qn 1 (N 1)++[vi 60 0 1000000,vi 61 1 10])
def jD (k:Nat):List SV:=let b:=110+10*k
 [vi b 0 10,vi (b+1) 0 10,vi (b+2) 0 10,.bool (.bv (b+3)),.bool (.bv (b+4)),.bool (.bv (b+5)),vi (b+6) (-1000000) 1000000]
def zV (k n:Nat):SV:= .osl (4+k) [.int .i64 (-9223372036854775808) 9223372036854775807,.int .i64 (-9223372036854775808) 9223372036854775807,.bool] (nR n)
def ym (k:Nat):List SV:=let b:=150+10*k
 [vi b (-100000) 100000,vi (b+1) (-4000) 4000,vi (b+2) 0 3]
def gT (N:Nat->Nat):SV:= .agg (jD 0++jD 1++jD 2++[zV 0 (N 0),zV 1 (N 1)]++ym 0++ym 1++[vi 170 0 3])
def xD:SV:= .osl 6 [] ⟨.v 180,0,64⟩
def zne (N:Nat->Nat) (v:SV) (args:List SV):Option (List E × SV):=if SV.sameL args [gR N,gT N]then some ([],v)else none
def zb0 (N:Nat->Nat):zl:=zF (zb 6 (zne N (.int .i64 ⟨.c 0,0,0⟩))) (zb 12 (zne N .nili))
def jE (N:Nat->Nat):List SV:=[gR N,gT N,xD]
def nn (a b:Nat):Nat->Nat:=fun k=>if k=0 then a else b
end Go.Proofs.YtoakpnoajmngmaaGreatDoor.Sx
namespace Go.Proofs.YtoakpnoajmngmaaGreatDoor.Sx
def qx:List (Nat × List (Nat × List Nat)):=[(3,[(0,[2,3,4]),(1,[2,3,4,34]),(2,[6]),(3,[2,3,4,7]),(4,[2,3,4,7,8]),(5,[2,3,4,7,8,9,10]),(6,[2,3,4,7,8,9,10,47]),(7,[2,3,4,7,8,9,10]),(8,[3,4,7,8,9,10,11,12,13]),(9,[6])]),
 (5,[(0,[1]),(1,[1,3]),(2,[1,3,5]),(3,[1,3]),(4,[1,3,25]),(5,[2]),(6,[2])]),
 (7,[(0,[0]),(1,[0,3]),(2,[0,3,7]),(3,[0,3]),(4,[0,3,14]),(5,[2]),(6,[2])]),
 (8,[(0,[0,1]),(1,[1,5]),(2,[4]),(3,[4])]),
 (9,[(0,[2,3,4,6]),(1,[3,4,6,8]),(2,[3,4,6,8,10]),(3,[3,4,6,8,10]),(4,[3,4,6,8,10,11]),(5,[3,4,6,8,10,11,12]),(6,[3,4,6,8,10,11,12,13]),(7,[3,4,6,8,10,11,12,13,14]),(8,[3,4,6,8,10,11,12,13,14,48]),(9,[3,4,6,8,10,11,12,13,14]),(10,[3,4,6,8,10,11,12,13,14,15]),(11,[3,4,6,8,10,11,12,13,14,15]),(12,[3,4,6,8,10,11,12,13,14,15,16]),(13,[3,4,6,8,10,11,12,13,14,15,16,17]),(14,[3,4,6,8,10,11,12,13,14,15,16,17,82]),(15,[3,4,6,8,10,11,12,13,14,15,16,17]),(16,[3,4,6,8,10,11,12,13,14,15,16,17,18]),(17,[3,4,6,8,10,11,12,13,14,15,16,17,18]),(18,[3,4,6,8,10,11,12,13,14,15,16,17,114]),(19,[3,4,6,8,10,11,12,13,14,15,16,17]),(20,[3,4,6,8,10,11,12,13,14]),(21,[3,6,8,10,11,12,13,126]),(22,[3,6,8,10,11,13]),(23,[3,6,8,10,11,13]),(24,[3,6,8,10,11,13,19]),(25,[3,6,8,10,11,13,19,20]),(26,[3,6,8,10,11,13,19,20,135]),(27,[3,6,8,10,11,13,19,20]),(28,[3,6,8,10,11,13,19,20]),(29,[3,6,8,10,11,13,19,20,21]),(30,[3,6,8,10,11,13,19,20,21,169]),(31,[3,6,8,10,11,13,19,20,21]),(32,[3,6,8,10,11,13,19,20,21,22]),(33,[3,6,8,10,11,13,19,20,21,22,179]),(34,[3,6,8,10,11,13,19,20,21,22]),(35,[3,6,8,10,11,13,19,20,21]),(36,[6,7])]),
 (10,[(0,[2,3,4,6]),(1,[2,3,4,6,9]),(2,[2,3,4,6,9,28]),(3,[6,7,8]),(4,[3,4,6,9,10]),(5,[3,4,6,9,10,38]),(6,[6,7,8]),(7,[3,6,12]),(8,[3,6,12,13]),(9,[3,6,12,13,14]),(10,[3,6,12,13,14,15]),(11,[3,6,12,13,14,15,54,55]),(12,[3,6,12,13,14,15,54,55,56]),(13,[3,6,12,13,14,15,16,17,54,55]),(14,[3,6,12,13,14,15,16,18,54,55]),(15,[3,6,12,13,14,15,16,18,54,55]),(16,[3,6,12,13,14,15,54,55]),(17,[3,6,12,13,14,15,54,55]),(18,[3,6,12,13,14,19]),(19,[3,6,12,13,14,19,21]),(20,[3,6,12,13,14]),(21,[6,12,13,14,103,104]),(22,[6,12,13,14,103,104,105]),(23,[6,12,13,14,22,23,103,104]),(24,[6,12,13,14,103,104]),(25,[6,12,13,14,103,104]),(26,[6,12]),(27,[6,7,8])]),
 (11,[(0,[0,1]),(1,[4])]),
 (13,[(0,[2,3]),(1,[4])]),
 (14,[(0,[0,1]),(1,[0,1,10]),(2,[4]),(3,[0,1,5]),(4,[0,1,5,14]),(5,[0,1,5]),(6,[0,1,5,25]),(7,[4]),(8,[4])]),
 (23,[(0,[1,2]),(1,[2])]),
 (25,[(0,[1,2]),(1,[2])]),
 (27,[(0,[1,3,4,5,7,10]),(1,[1,3,4,5,7,10,12]),(2,[1,3,4,5,7,10,12,13]),(3,[1,3,4,5,7,10,12,13,18]),(4,[1,3,4,5,7,10,12,13]),(5,[1,3,4,5,7,10,12,13]),(6,[10,14,15]),(7,[10,11])]),
 (28,[(0,[1,2]),(1,[2])]),
 (33,[(0,[2,3,4,5,6,7,13]),(1,[2,3,4,5,6,7,13,14,15]),(2,[2,3,4,5,6,7,13,14,15,16]),(3,[2,3,6,7,13,14,15,16,17]),(4,[2,3,6,7,13,14,15,16,17,18,19]),(5,[2,3,6,7,13,14,15,16,17,18,19,20]),(6,[2,3,6,7,13,14,15,16,17,18,19,20,69]),(7,[2,6,7,13,15,17,18,19,20]),(8,[2,6,7,13,15,17,18,19,20,21]),(9,[2,7,13,15,17,18,19,21,22]),(10,[2,7,13,15,17,18,19,21,22,23]),(11,[2,7,13,15,17,18,19,21,22,23,90]),(12,[2,7,13,15,17,18,19,21,22,23]),(13,[2,7,13,15,17,18,19,21,22,23,24]),(14,[2,7,13,15,17,18,19,21,22,23,24]),(15,[2,7,13,15,17,18,19,21,22,23]),(16,[12,13])]),
 (34,[(0,[0,1,2]),(1,[6])]),
 (36,[(0,[0,1,2,7]),(1,[0,1,2,7,9]),(2,[0,1,2,7,9,14]),(3,[0,1,2,7,9,14,15]),(4,[0,1,2,7,9,10,14]),(5,[0,1,2,7,9,14]),(6,[0,1,2,7,9,14]),(7,[0,1,11,12]),(8,[12]),(9,[8])]),
 (37,[(0,[1,2]),(1,[1,2,3]),(2,[2])]),
 (38,[(0,[0,1,5,6]),(1,[0,1,5,6,7]),(2,[0,1,5,6,7]),(3,[0,1,5,6,7,8]),(4,[0,1,5,6,7,8,40,41,42]),(5,[0,1,5,6,7,8,40,41,42,43]),(6,[0,1,5,6,7,8,9,10,40,41,42]),(7,[0,1,5,6,7,8,9,40,41,42]),(8,[0,1,5,6,7,8,40,41,42,69]),(9,[0,1,5,6,7,8,40,41,42]),(10,[0,1,5,6,7,8,40,41,42]),(11,[6,8]),(12,[6])]),
 (39,[(0,[0]),(1,[0,4]),(2,[4,8,9,10]),(3,[4,8,9,10,11]),(4,[4,6,8,9,10]),(5,[4,6,7,8,9,10]),(6,[4,6,7,8,9,10,17]),(7,[2,3]),(8,[4,8,9,10]),(9,[4,8,9,10]),(10,[2,3])]),
 (41,[(0,[0,1,2]),(1,[0,1,2,21]),(2,[6,7]),(3,[0,1,23]),(4,[6,7]),(5,[6,7])]),
 (42,[(0,[0,1,2,3,9]),(1,[0,1,2,3,9,10]),(2,[0,1,2,3,9,11]),(3,[0,1,2,3,9,11,12]),(4,[0,1,2,9,11,13]),(5,[0,1,2,9,11,13,14,15]),(6,[0,1,2,9,11,13,14,15,17]),(7,[0,1,2,9,11,13,14,15,17,85]),(8,[0,1,9,13,14,15,17]),(9,[0,1,9,13,14,15,18]),(10,[0,1,9,13,14,15,109,110,111]),(11,[0,1,9,13,14,15,109,110,111,112]),(12,[0,1,9,13,14,15,20,21,109,110,111]),(13,[0,1,9,13,14,15,109,110,111]),(14,[0,1,9,13,14,15,109,110,111]),(15,[])]),
 (43,[(0,[0,11,12]),(1,[0,11,12,13]),(2,[0,2,3,11,12]),(3,[0,2,11,12,16,17,18]),(4,[0,2,11,12,16,17,18,19]),(5,[0,2,4,5,11,12,16,17,18]),(6,[0,2,4,5,6,11,12,16,17,18]),(7,[0,2,4,5,6,11,12,16,17,18,24]),(8,[0,2,4,5,6,11,12,16,17,18]),(9,[0,2,11,12,16,17,18]),(10,[0,2,11,12,16,17,18]),(11,[0,11,12]),(12,[])]),
 (44,[(0,[0]),(1,[0,6]),(2,[2]),(3,[3,4]),(4,[3,13]),(5,[2]),(6,[2])]),
 (49,[(0,[0,1]),(1,[0,1,10]),(2,[4]),(3,[0,1,5]),(4,[0,1,5,14]),(5,[0,1,5]),(6,[0,1,5,25]),(7,[4]),(8,[4])]),
 (64,[(0,[1,2]),(1,[2])]),
 (83,[(0,[0]),(1,[3]),(2,[3,4]),(3,[6]),(4,[2]),(5,[2])]),
 (84,[(0,[1,2,3,4]),(1,[3,10,11]),(2,[3,10,11,20]),(3,[8,9]),(4,[8,9])]),
 (88,[(0,[0,8]),(1,[])])]
def zqq:Nat:=1140955894706258591
def mS:SV:= .int .i64 ⟨.v zqq,0,3⟩
def znQ:SV:= .int .i64 ⟨znb,0,3⟩
def cI (z:Int):SV:= .int .i64 ⟨.c z,z,z⟩
def bkL (k:Nat):List SV:=[kI (200+10*k) 0 10,kI (201+10*k) 0 10,kI (202+10*k) 0 10,kB (203+10*k),kB (204+10*k),kB (205+10*k),kI (206+10*k) (-1000000) 1000000]
def wtL (k j:Nat):List SV:=[.int .i64 ⟨wtE k j 0,-1000,1000⟩,.int .i64 ⟨wtE k j 1,0,10⟩,.bool (wtE k j 2)]
def mvL (k j:Nat):List SV:=[.int .i64 ⟨plE k j,-1000,1000⟩,.int .i64 ⟨wtE k j 1,0,10⟩,.bool (wtE k j 2)]
def zk8 (N:Nat->Nat) (k:Nat):E:= .ite kO (kE (300+2*k)) (loE k (N k))
def zk9 (N:Nat->Nat) (k:Nat):E:= .ite kO (kE (301+2*k)) (hiE k (N k))
def zla (k:Nat):E:= .ite (.bin .or (.bin .eq XG (.c 0)) (.bin .eq XG (.c 1))) (kE (314+k)) (kE (316+k))
def j9 (N:Nat->Nat):List E:=[znb,qR 0 2,qR 0 3,qR 1 2,qR 1 3,zk8 N 0,zk9 N 0,zk8 N 1,zk9 N 1,zla 0,zla 1]
def zpz (e:E):List VC:=if e.big ziK then[⟨[],.bin .eq (.v (zal e)) e⟩]else[]
def zQ (N:Nat->Nat):List VC:=(j9 N).flatMap zpz
def qe (N:Nat->Nat):zl:=zF (zb0 N) (zk7 N)
end Go.Proofs.YtoakpnoajmngmaaGreatDoor.Sx
namespace Go.Proofs.YtoakpnoajmngmaaGreatDoor.Sx
def zy (n:Nat):SV:= .int .i64 ⟨.v n,-9223372036854775808,9223372036854775807⟩
def Vn (n:Nat):SV:= .err ⟨kE n,0,5⟩
def jd (k:Nat):List SV:=let b:=20+20*k
 [zy b,zy (b+1),zy (b+2),zy (b+3),zy (b+4),zy (b+5),zy (b+6),zy (b+7),zy (b+8),zy (b+9),zy (b+10),zy (b+11),qS (2*k) (100+2*k),qS (2*k+1) (101+2*k),zy (b+12)]
def jo:SV:= .agg (jd 0++jd 1++[zy 60,zy 61])
def Qc (mk:Nat->SV) (args:List SV):Option (List E × SV):=
 if SV.sameL args [.agg (jd 0)]then some ([],mk 600)else if SV.sameL args [.agg (jd 1)]then some ([],mk 601)else none
def Qd (mk:Nat->SV) (args:List SV):Option (List E × SV):=if SV.sameL args [.agg [zy 60,zy 61]]then some ([],mk 602)else none
def m5 (n:Nat):SV:=kI n 0 5
def zgu:zl:=ors [zb 56 (Qc m5),zb 57 (Qd m5),zb 89 (Qc Vn),zb 90 (Qd Vn)]
def j0 (k:Nat):List SV:=let b:=20+20*k
 [vi b (-100000) 0,vi (b+1) 0 100000,vi (b+2) 0 1000,vi (b+3) 0 1000,vi (b+4) 2 4,vi (b+5) 1 1000,vi (b+6) 1 1000,vi (b+7) 0 1000,vi (b+8) 0 1000000,vi (b+9) 1 10,vi (b+10) 1 10,vi (b+11) 0 1000,qS (2*k) (100+2*k),qS (2*k+1) (101+2*k),vi (b+12) 0 65536]
def zL:SV:= .agg (j0 0++j0 1++[vi 60 0 1000000,vi 61 1 10])
def zY (k:Nat):List SV:=let b:=110+10*k
 [zy b,zy (b+1),zy (b+2),.bool (.bv (b+3)),.bool (.bv (b+4)),.bool (.bv (b+5)),zy (b+6)]
def qT (k:Nat):List SV:=let b:=150+10*k
 [zy b,zy (b+1),zy (b+2)]
def zN (n m:Nat):SV:= .agg (zY 0++zY 1++zY 2++[zV 0 n,zV 1 m]++qT 0++qT 1++[zy 170])
def XH (k:Nat):E:= .bin .mul (.bin .sub (.v (24+20*k)) (.c 1)) (x k 5)
def we (v:SV) (args:List SV):Option (List E × SV):=if SV.sameL args [zL]then some ([],v)else none
def Qe (mk:Nat->SV) (args:List SV):Option (List E × SV):=
 if SV.sameL args [.agg (zY 0)]then some ([],mk 610)else if SV.sameL args [.agg (zY 1)]then some ([],mk 611)else if SV.sameL args [.agg (zY 2)]then some ([],mk 612)else none
def Mc (k:Nat):List E:=[x k 0,x k 1,x k 11,x k 12,XH k,nE (2*k),nE (2*k+1),.v (150+10*k),.v (151+10*k),.v (152+10*k),.c 0,.c 0,.c 0,.c 0,.c 0]
def Yd (args:List SV):Option (List E × SV):=match args with
 |[.agg [.int .i64 lo,.int .i64 hi,.int .i64 tu,.int .i64 bu,.int .i64 mo,.osl g [.int .i64 _ _] _,.osl d [.int .i64 _ _] _],.agg [.int .i64 aim,.int .i64 held,.int .i64 law],.agg [.int .i64 st,.int .i64 is,.int .i64 sp,.int .i64 al,.int .i64 pr]]=>
  match km Mc [lo.e,hi.e,tu.e,bu.e,mo.e,nE g,nE d,aim.e,held.e,law.e,st.e,is.e,sp.e,al.e,pr.e] [0,1]with
  |some k=>some ([],m5 (620+k))
  |none=>none
 |_=>none
def Md (k:Nat):List E:=[x k 0,x k 1,x k 11,x k 12,XH k,nE (2*k),nE (2*k+1),.v (150+10*k),.v (151+10*k),.v (152+10*k)]
def Qf (args:List SV):Option (List E × SV):=match args with
 |[.agg [.int .i64 a0,.int .i64 a1,.int .i64 a2,.int .i64 a3,.int .i64 a4,.int .i64 a5,.int .i64 a6,.int .i64 a7,.int .i64 a8,.int .i64 a9,.int .i64 a10,.int .i64 a11,.int .i64 lo,.int .i64 hi,.int .i64 tu,.int .i64 bu,.int .i64 mo,.osl g [.int .i64 _ _] _,.osl d [.int .i64 _ _] _],.agg [.int .i64 aim,.int .i64 held,.int .i64 law]]=>
  match km Md [lo.e,hi.e,tu.e,bu.e,mo.e,nE g,nE d,aim.e,held.e,law.e] [0,1]with
  |some k=>some ([],.bool (zer (kE (620+k))))
  |none=>none
 |_=>none
def zpA:List Nat:=(List.range 2).flatMap fun k=>(List.range 9).map fun j=>10*k+j
def XI (q:Nat):List E:=ziE (q/10)++svE (q/10) (q%10)
def wh (mk:Nat->SV) (args:List SV):Option (List E × SV):=match args with
 |[.agg [.int .i64 t,.int .i64 r,.int .i64 s,.int .i64 c],.agg [.int .i64 i,.int .i64 b,.bool o]]=>match km XI [t.e,r.e,s.e,c.e,i.e,b.e,o] zpA with
  |some q=>some ([],mk (630+q))
  |none=>none
 |_=>none
def je:zl:=ors [zb 19 (we (.int .i64 ⟨.c 0,0,0⟩)),zb 21 (Qe m5),zb 22 Yd,zb 24 (wh m5),
 zb 45 (we .nili),zb 46 (Qe Vn),zb 47 Qf,zb 48 (wh Vn)]
def yn:SV:= .agg [vi 20 (-100000) 100000,vi 21 (-100000) 100000,vi 22 0 1000,vi 23 0 65536,vi 24 1 4000,qS 0 100,qS 1 101]
def zI:SV:= .int .i64 ⟨.c 0,0,0⟩
def Me:List SV:=[yn,.agg [zy 25,zy 26,zy 27],.agg [zI,zI,zI,zI,zI]]
def Mf (args:List SV):Option (List E × SV):=if SV.sameL args [yn]then some ([],zI)else none
def zlb:zl:=ors [zb 58 Mf]
def xE:SV:= .agg (zY 0++zY 1++zY 2++[.osl 4 [.int .i64 (-9223372036854775808) 9223372036854775807,.int .i64 (-9223372036854775808) 9223372036854775807,.bool] ⟨.v 104,0,9⟩,.osl 5 [.int .i64 (-9223372036854775808) 9223372036854775807,.int .i64 (-9223372036854775808) 9223372036854775807,.bool] ⟨.v 105,0,9⟩]++qT 0++qT 1++[zy 170])
def wi (v:SV) (args:List SV):Option (List E × SV):=if SV.sameL args [jo]then some ([],v)else none
def zgv:zl:=ors [zb 19 (wi (kI 603 1 5)),zb 45 (wi (.ifc 44 (kI 603 1 5)))]
end Go.Proofs.YtoakpnoajmngmaaGreatDoor.Sx
namespace Go.Proofs.YtoakpnoajmngmaaGreatDoor.Sx
def wtN (k n:Nat):List SV:=(List.range n).flatMap (wtL k)
def mvN (k n:Nat):List SV:=(List.range n).flatMap (mvL k)
def u3 (n:Nat):SV:= .int .u32 ⟨kE n,0,4294967295⟩
def tlN (a b:Nat):List SV:=(List.range a).map (fun j=>u3 (340+j))++(List.range b).map (fun j=>u3 (344+j))++[u3 348]
def mlI (n j:Nat):SV:=if n=2 then vi j 1 1000 else .int .i64 ⟨.bin .mul (.c (n-1)) (.v j),n-1,1000*(n-1)⟩
def XJ (k n:Nat):SV:=let b:=20+20*k
 .agg [vi (b+8) 0 1000000,vi (b+9) 1 10,vi (b+5) 1 1000,vi (b+6) 1 1000,vi (b+7) 0 1000,vi (b+10) 1 10,vi b (-100000) 0,vi (b+1) 0 100000,vi (b+2) 0 1000,.int .i64 ⟨.bin .add (.v (b+3)) (.v (b+7)),0,2000⟩,mlI n (b+5),mlI n (b+6),vi b (-100000) 0,vi (b+1) 0 100000,vi (b+11) 0 1000,vi (b+12) 0 65536,mlI n (b+5),qS (2*k) (100+2*k),qS (2*k+1) (101+2*k)]
def zlc (k n:Nat):SV:= .agg [kI (230+k) 0 3,.int .i64 ⟨qR k n,0,n⟩,cI n]
def Wf:List SV:=[vi 60 0 1000000,vi 61 1 10]
def bkA:List SV:=bkL 0++bkL 1++bkL 2
def ze7:List SV:=ym 0++ym 1
def h0:SV:=kI 291 (-100000) 100000
def h1:SV:=kI 330 (-4000) 4000
def h2:SV:=kI 294 (-100000) 100000
def h3:SV:=kI 331 (-4000) 4000
def tS:TypeId:=80
def tF:TypeId:=107
section
variable (a b:Nat) (q:Nat->Nat)
def Mg:ME:=⟨33,[.agg (qn 0 a),.agg (bkA++[.sl (q 0) 0 a none,.sl (q 1) 0 b none]++ze7++[znQ]),cI 0,kI 206 (-1000000) 1000000,kI 226 (-1000000) 1000000,kI 451 (-1000000) 1000000],[((q 1),⟨[],⟨wtN 1 b,tS,(.grow 3)⟩⟩),((q 0),⟨[],⟨wtN 0 a,tS,(.grow 3)⟩⟩)],(q 1+1),⟨.tup ([.sl (q 2) 0 a none,.agg ([h0,h1,mS])]),[((q 2),⟨[],⟨mvN 0 a,tS,(.grow 3)⟩⟩),((q 1),⟨[],⟨wtN 1 b,tS,(.grow 3)⟩⟩),((q 0),⟨[],⟨wtN 0 a,tS,(.grow 3)⟩⟩)],(q 2+1)⟩,zQ (nn a b)⟩
def Mh:ME:=⟨33,[.agg (qn 1 b),.agg (bkA++[.sl (q 2) 0 a none,.sl (q 1) 0 b none,h0,h1,mS]++ym 1++[znQ]),cI 1,kI 216 (-1000000) 1000000,kI 226 (-1000000) 1000000,kI 453 (-1000000) 1000000],[((q 1),⟨[],⟨wtN 1 b,tS,(.grow 3)⟩⟩),((q 2),⟨[],⟨mvN 0 a,tS,(.grow 3)⟩⟩)],(q 3),⟨.tup ([.sl (q 4) 0 b none,.agg ([h2,h3,mS])]),[((q 4),⟨[],⟨mvN 1 b,tS,(.grow 3)⟩⟩),((q 1),⟨[],⟨wtN 1 b,tS,(.grow 3)⟩⟩),((q 2),⟨[],⟨mvN 0 a,tS,(.grow 3)⟩⟩)],(q 4+1)⟩,zQ (nn a b)⟩
def Mi:ME:=⟨38,[.ptr (q 5) 0,cI 0,XJ 0 a],[((q 5),⟨[],⟨bkL 0++jD 1++bkL 2++[zV 0 a,zV 1 b]++ze7++[vi 170 0 3]++qn 0 a++qn 1 b++Wf++[.slv (q 5-1) 0 xp,.nils],tF,.full⟩⟩),((q 5-1),⟨[],⟨[],136,gN⟩⟩)],(q 5+14),⟨zlc 0 a,[((q 5+16),⟨[],⟨wtN 0 a,tS,.full⟩⟩),((q 5),⟨[],⟨bkL 0++jD 1++bkL 2++[.sl (q 5+16) 0 a (some a),zV 1 b]++ze7++[vi 170 0 3]++qn 0 a++qn 1 b++Wf++[.slv (q 5-1) 0 xp,.nils],tF,.full⟩⟩),((q 5-1),⟨[],⟨[],136,gN⟩⟩)],(q 6)⟩,zQ (nn a b)⟩
def Mj:ME:=⟨38,[.ptr (q 5) 0,cI 1,XJ 1 b],[((q 5+16),⟨[],⟨wtN 0 a,tS,.full⟩⟩),((q 5),⟨[],⟨bkA++[.sl (q 5+16) 0 a (some a),zV 1 b]++ze7++[vi 170 0 3]++qn 0 a++qn 1 b++Wf++[.slv (q 5-1) 0 xp,.nils],tF,.full⟩⟩),((q 5-1),⟨[],⟨[],136,gN⟩⟩)],(q 6+10),⟨zlc 1 b,[((q 6+12),⟨[],⟨wtN 1 b,tS,.full⟩⟩),((q 5+16),⟨[],⟨wtN 0 a,tS,.full⟩⟩),((q 5),⟨[],⟨bkA++[.sl (q 5+16) 0 a (some a),.sl (q 6+12) 0 b (some b)]++ze7++[vi 170 0 3]++qn 0 a++qn 1 b++Wf++[.slv (q 5-1) 0 xp,.nils],tF,.full⟩⟩),((q 5-1),⟨[],⟨[],136,gN⟩⟩)],(q 7)⟩,zQ (nn a b)⟩
def Mk:ME:=⟨42,[.ptr (q 5) 0,cI 0,kI 206 (-1000000) 1000000,kI 226 (-1000000) 1000000,XJ 0 a],[((q 5-1),⟨[],⟨[],136,gN⟩⟩),((q 6+12),⟨[],⟨wtN 1 b,tS,.full⟩⟩),((q 5+16),⟨[],⟨wtN 0 a,tS,.full⟩⟩),((q 5),⟨[],⟨bkA++[.sl (q 5+16) 0 a (some a),.sl (q 6+12) 0 b (some b)]++ze7++[mS]++qn 0 a++qn 1 b++Wf++[.slv (q 5-1) 0 xp,.nils],tF,.full⟩⟩)],(q 7+8),⟨.tup ([]),[((q 5+16),⟨[],⟨mvN 0 a,tS,.full⟩⟩),((q 5-1),⟨[],⟨[],136,gN⟩⟩),((q 6+12),⟨[],⟨wtN 1 b,tS,.full⟩⟩),((q 5),⟨[],⟨bkA++[.sl (q 5+16) 0 a (some a),.sl (q 6+12) 0 b (some b),h0,h1,mS]++ym 1++[mS]++qn 0 a++qn 1 b++Wf++[.slv (q 5-1) 0 xp,.nils],tF,.full⟩⟩)],(q 7+15)⟩,zQ (nn a b)⟩
def Ml:ME:=⟨42,[.ptr (q 5) 0,cI 1,kI 216 (-1000000) 1000000,kI 226 (-1000000) 1000000,XJ 1 b],[((q 5-1),⟨[],⟨[],136,gN⟩⟩),((q 6+12),⟨[],⟨wtN 1 b,tS,.full⟩⟩),((q 5+16),⟨[],⟨mvN 0 a,tS,.full⟩⟩),((q 5),⟨[],⟨bkA++[.sl (q 5+16) 0 a (some a),.sl (q 6+12) 0 b (some b),h0,h1,mS]++ym 1++[mS]++qn 0 a++qn 1 b++Wf++[.slv (q 5-1) 0 xp,.nils],tF,.full⟩⟩)],(q 7+18),⟨.tup ([]),[((q 6+12),⟨[],⟨mvN 1 b,tS,.full⟩⟩),((q 5-1),⟨[],⟨[],136,gN⟩⟩),((q 5+16),⟨[],⟨mvN 0 a,tS,.full⟩⟩),((q 5),⟨[],⟨bkA++[.sl (q 5+16) 0 a (some a),.sl (q 6+12) 0 b (some b),h0,h1,mS,h2,h3,mS,mS]++qn 0 a++qn 1 b++Wf++[.slv (q 5-1) 0 xp,.nils],tF,.full⟩⟩)],(q 7+25)⟩,zQ (nn a b)⟩
def Mm:ME:=⟨43,[.ptr (q 5) 0],[((q 6+12),⟨[],⟨mvN 1 b,tS,.full⟩⟩),((q 5+16),⟨[],⟨mvN 0 a,tS,.full⟩⟩),((q 5),⟨[],⟨bkA++[.sl (q 5+16) 0 a (some a),.sl (q 6+12) 0 b (some b),h0,h1,mS,h2,h3,mS,mS]++qn 0 a++qn 1 b++Wf++[.slv (q 5-1) 0 xp,.nils],tF,.full⟩⟩),((q 5-1),⟨[],⟨[],136,gN⟩⟩)],(q 7+25),⟨.tup ([]),[((q 8),⟨[],⟨tlN a b,101,(.grow 1)⟩⟩),((q 6+12),⟨[],⟨mvN 1 b,tS,.full⟩⟩),((q 5+16),⟨[],⟨mvN 0 a,tS,.full⟩⟩),((q 5),⟨[],⟨bkA++[.sl (q 5+16) 0 a (some a),.sl (q 6+12) 0 b (some b),h0,h1,mS,h2,h3,mS,mS]++qn 0 a++qn 1 b++Wf++[.slv (q 5-1) 0 xp,.sl (q 8) 0 (a+b+1) none],tF,.full⟩⟩),((q 5-1),⟨[],⟨[],136,gN⟩⟩)],(q 8+1)⟩,zQ (nn a b)⟩
def xw:ME:=⟨9,[.agg (qn 0 a++qn 1 b++Wf),.agg (jD 0++jD 1++jD 2++[zV 0 a,zV 1 b]++ze7++[vi 170 0 3]),xD],[],5,⟨.tup ([.agg (bkA++[.sl (q 2) 0 a none,.sl (q 4) 0 b none,h0,h1,mS,h2,h3,mS,znQ]),.sl (q 5-5) 0 (a+b+1) none]),[((q 2),⟨[],⟨mvN 0 a,tS,(.grow 3)⟩⟩),((q 4),⟨[],⟨mvN 1 b,tS,(.grow 3)⟩⟩),((q 5-5),⟨[],⟨tlN a b,101,(.grow 1)⟩⟩)],(q 5-4)⟩,zQ (nn a b)⟩
def mT:ME:=⟨10,[.agg (qn 0 a++qn 1 b++Wf),.agg (jD 0++jD 1++jD 2++[zV 0 a,zV 1 b]++ze7++[vi 170 0 3]),xD],[],(q 5-4),⟨.tup ([.agg (bkA++[.sl (q 5+16) 0 a (some a),.sl (q 6+12) 0 b (some b),h0,h1,mS,h2,h3,mS,mS]),.sl (q 8) 0 (a+b+1) none,.nili]),[((q 8),⟨[],⟨tlN a b,101,(.grow 1)⟩⟩),((q 6+12),⟨[],⟨mvN 1 b,tS,.full⟩⟩),((q 5+16),⟨[],⟨mvN 0 a,tS,.full⟩⟩)],(q 8+1)⟩,zQ (nn a b)⟩
def fsL:List ME:=[Mg a b q,Mh a b q,Mi a b q,Mj a b q,Mk a b q,Ml a b q,Mm a b q]
end
def zu (h:zl) (e:ME):Prop:=e.chk (zH Tryz.prog 44 (qb h qx 50 100000) (zi Tryz.prog 44) 20 [] e.f e.args e.H e.nx)=true
def fsq (l:List Nat):Nat->Nat:=fun k=>l.getD k 0
structure FsOk (a b:Nat) (q:Nat->Nat):Prop where
 l:∀e∈fsL a b q,zu (qe (nn a b)) e
 t:zu (zF (qk (fsL a b q)) (zF (fsG true) (qe (nn a b)))) (xw a b q)
 f:zu (zF (qk (fsL a b q)) (zF (fsG false) (qe (nn a b)))) (xw a b q)
 o:zu (zF (qk (fsL a b q)) (qe (nn a b))) (mT a b q)
 d:qL (zQ (nn a b)) [] []=[]
 r:chk (zH Tryz.prog 44 (qb (zF (qk [xw a b q,mT a b q]) (qe (nn a b))) qx 50 100000) (zi Tryz.prog 44) 20 [] 3 (jE (nn a b)) [] 0) (.bc true) (zQ (nn a b))=true
theorem xW {a b:Nat} {q:Nat->Nat} {h:zl} (h0:zu h (Mg a b q)) (h1:zu h (Mh a b q)) (h2:zu h (Mi a b q)) (h3:zu h (Mj a b q)) (h4:zu h (Mk a b q)) (h5:zu h (Ml a b q)) (h6:zu h (Mm a b q)):∀e∈fsL a b q,zu h e:=by
 intro e he
 simp only[fsL,List.mem_cons,List.not_mem_nil,or_false]at he
 rcases he with rfl|rfl|rfl|rfl|rfl|rfl|rfl<;>assumption
end Go.Proofs.YtoakpnoajmngmaaGreatDoor.Sx
namespace Go.Proofs.YtoakpnoajmngmaaGreatDoor.Sx
def JE (r:Nat->Int × Int) (k:Nat) (sh:List CK):SV:= .osl k sh ⟨.v (100+k),(r k).1,(r k).2⟩
def shI:List CK:=[.int .i64 (-9223372036854775808) 9223372036854775807]
def shS:List CK:=[.int .i64 (-9223372036854775808) 9223372036854775807,.int .i64 (-9223372036854775808) 9223372036854775807,.bool]
def Vo (r:Nat->Int × Int) (k:Nat):List SV:=let b:=20+20*k
 [zy b,zy (b+1),zy (b+2),zy (b+3),zy (b+4),zy (b+5),zy (b+6),zy (b+7),zy (b+8),zy (b+9),zy (b+10),zy (b+11),JE r (2*k) shI,JE r (2*k+1) shI,zy (b+12)]
def JF (r:Nat->Int × Int):SV:= .agg (Vo r 0++Vo r 1++[zy 60,zy 61])
def JG (r:Nat->Int × Int):SV:= .agg (zY 0++zY 1++zY 2++[JE r 4 shS,JE r 5 shS]++qT 0++qT 1++[zy 170])
def xq (r:Nat->Int × Int):List SV:=[JF r,JG r,JE r 6 []]
def mx:Int:=9223372036854775807
def small (k:Nat):Int:=if k<4 then 20 else if k<6 then 9 else 200
def znf (k:Nat):Nat:=if k<4 then k else if k=6 then 4 else k+1
def rG (q k:Nat):Int × Int:=if znf k<q then(0,small k)else if znf k=q then(small k+1,mx)else(0,mx)
def rA (k:Nat):Int × Int:=(0,small k)
def rL (k:Nat):Int × Int:=if k=6 then(65,200)else(0,small k)
def Vp (r:Nat->Int × Int) (v:SV) (args:List SV):Option (List E × SV):=if SV.sameL args [JF r,JG r]then some ([],v)else none
def znR:zl:=ors [zb 6 (Vp rA (kI 604 1 5)),zb 12 (Vp rA (.ifc 44 (kI 604 1 5)))]
def zgw (args:List SV):Option (List E × SV):=match args with
 |[.osl 6 [] r]=>if decide (65<=r.lo)then some ([],.tup [.nils,zI,.ifc 44 (.int .i64 ⟨.c 2,2,2⟩)])else none
 |_=>none
def znS:zl:=ors [zb 6 (Vp rL zI),zb 12 (Vp rL .nili),zb 35 zgw]
end Go.Proofs.YtoakpnoajmngmaaGreatDoor.Sx
namespace Go.Proofs.YtoakpnoajmngmaaGreatDoor.Sx
theorem zgx:chk (zH Tryz.prog 44 (qb jS qx 50 100000) (zi Tryz.prog 44) 20 [] 3 (xq (rG 0)) [] 0) (.bc true) []=true:=by kernel_rfl
theorem zgy:chk (zH Tryz.prog 44 (qb jS qx 50 100000) (zi Tryz.prog 44) 20 [] 3 (xq (rG 1)) [] 0) (.bc true) []=true:=by kernel_rfl
theorem zgz:chk (zH Tryz.prog 44 (qb jS qx 50 100000) (zi Tryz.prog 44) 20 [] 3 (xq (rG 2)) [] 0) (.bc true) []=true:=by kernel_rfl
theorem zgA:chk (zH Tryz.prog 44 (qb jS qx 50 100000) (zi Tryz.prog 44) 20 [] 3 (xq (rG 3)) [] 0) (.bc true) []=true:=by kernel_rfl
theorem zgB:chk (zH Tryz.prog 44 (qb jS qx 50 100000) (zi Tryz.prog 44) 20 [] 3 (xq (rG 4)) [] 0) (.bc true) []=true:=by kernel_rfl
theorem zgC:chk (zH Tryz.prog 44 (qb jS qx 50 100000) (zi Tryz.prog 44) 20 [] 3 (xq (rG 5)) [] 0) (.bc true) []=true:=by kernel_rfl
theorem zgD:chk (zH Tryz.prog 44 (qb jS qx 50 100000) (zi Tryz.prog 44) 20 [] 3 (xq (rG 6)) [] 0) (.bc true) []=true:=by kernel_rfl
theorem zgE:chk (zH Tryz.prog 44 (qb znR qx 50 100000) (zi Tryz.prog 44) 20 [] 3 (xq rA) [] 0) (.bc true) []=true:=by kernel_rfl
theorem zgF:chk (zH Tryz.prog 44 (qb znS qx 50 100000) (zi Tryz.prog 44) 20 [] 3 (xq rL) [] 0) (.bc true) []=true:=by kernel_rfl
end Go.Proofs.YtoakpnoajmngmaaGreatDoor.Sx
namespace Go.Proofs.YtoakpnoajmngmaaGreatDoor.Sx
open Go.RowKit
structure Std (fn:(Nat->GD)->Nat->List Int->Int) (fb:(Nat->GD)->Nat->List Int->Bool) (G:Nat->GD) (ρ:Env):Prop where
 et:ρ.et=44
 fn:ρ.fn=fun id l=>if 1000<=id then(G ((id-1000)/100)).fi (l.headD 0).toNat (id%100)else fn G id l
 fb:ρ.fb=fun id l=>if 1000<=id then(G ((id-1000)/100)).fb (l.headD 0).toNat (id%100)else fb G id l
 ov:ρ.ov=fun k=>((G k).A,(G k).c)
 mv:ρ.mv=fun k=>wP (G k).n (G k).ks.length (G k).val
 ol:ρ.ol=fun k=>(G k).n
variable {fn:(Nat->GD)->Nat->List Int->Int} {fb:(Nat->GD)->Nat->List Int->Bool} {G:Nat->GD}
theorem Std.same {ρ ρ':Env} (h:Std fn fb G ρ) (hs:Same ρ ρ' [] []):Std fn fb G ρ':=⟨hs.et.trans h.et,hs.fn.trans h.fn,hs.fb.trans h.fb,hs.ov.trans h.ov,hs.mv.trans h.mv,hs.ol.trans h.ol⟩
theorem Std.sub {ρ:Env} (h:Std fn fb G ρ) (σ:Sub):Std fn fb G (ρ.sub σ):=⟨h.et,h.fn,h.fb,h.ov,h.mv,h.ol⟩
theorem Std.gen (et:Unit) (iv:Nat->Int) (bv:Nat->Bool) (fl:Nat->List Int->List Int):Std fn fb G (ja 44 iv bv (fn G) (fb G) fl G):=⟨rfl,rfl,rfl,rfl,rfl,rfl⟩
theorem Std.f {ρ:Env} (h:Std fn fb G ρ) {id:Nat} (hid:Nat.blt id 1000=true) (l:List Int):ρ.fn id l=fn G id l:=by
 have:=kv hid
 rw[h.fn]
 simp only
 rw[if_neg (by omega)]
theorem Std.b {ρ:Env} (h:Std fn fb G ρ) {id:Nat} (hid:Nat.blt id 1000=true) (l:List Int):ρ.fb id l=fb G id l:=by
 have:=kv hid
 rw[h.fb]
 simp only
 rw[if_neg (by omega)]
theorem Std.e {ρ:Env} (h:Std fn fb G ρ) {k j:Nat} (hj:Nat.blt j 100=true) (i:Int):ρ.fn (1000+100*k+j) [i]=(G k).fi i.toNat j:=by
 have:=kv hj
 rw[h.fn]
 simp only
 rw[if_pos (by omega)]
 have e2:(1000+100*k+j-1000)/100=k:=by omega
 have e3:(1000+100*k+j)%100=j:=by omega
 rw[e2,e3]
 rfl
theorem Std.row {ρ:Env} (h:Std fn fb G ρ) {w0:World} (hG:∀k,(G k).ok w0) {base:Nat->Prop} {w:World} (hm:Mem ρ base w) (hb:∀k,base k->k<w.heap.size) (k:Nat):(G k).ok w:=by
 refine⟨(hG k).n,fun i j hi hj=>?_,(hG k).b64⟩
 have:=hm.1 k (i*(G k).ks.length+j) ((G k).val i j) (by rw[h.mv];exact gK hi hj)
 rw[h.ov]at this
 obtain⟨p,off,h1,h2,h3⟩:=this
 exact⟨p,off,h1,hb p h2,h3⟩
theorem Std.slice {ρ:Env} (h:Std fn fb G ρ) {b:Bd} {N:Nat->Prop} {k:Nat} {sh:List CK} {len:R} (hok:(SV.osl k sh len).ok ρ N):(SV.osl k sh len).den ρ b= .slice (G k).A (G k).n (G k).c:=by
 have e:len.e.i ρ=((G k).n:Int):=by rw[hok.2.2.2,h.ol]
 simp only[SV.den,e,h.ov,Int.toNat_natCast]
def GD.f (g:GD) (i:Nat):Int:=g.fi i 0
def noF:(Nat->GD)->Nat->List Int->Int:=fun _ _ _=>0
def noB:(Nat->GD)->Nat->List Int->Bool:=fun _ _ _=>false
def one (g:GD):Nat->GD:=fun k=>match k with|0=>g|_=>GD.none
theorem ze8 {g:GD} {w:World} (o:g.ok w):∀k,(one g k).ok w:=fun k=>by
 match k with
 |0=>exact o
 |k+1=>exact GD.none_ok w
def two (g h:GD):Nat->GD:=fun k=>match k with|0=>g|1=>h|_=>GD.none
theorem jf (ρ:Env) (z:Int):R.fit ρ ⟨.c z,z,z⟩:=⟨Int.le_refl _,Int.le_refl _⟩
theorem qU (ρ:Env) (b:Bd) (base:Nat->Prop) (w:World):HRel ρ b base w [] (· <0):=⟨fun n e hf=>(by cases hf),fun n m e k hf=>(by cases hf)⟩
end Go.Proofs.YtoakpnoajmngmaaGreatDoor.Sx
namespace Go.Proofs.YtoakpnoajmngmaaGreatDoor.Sx
open Go.RowKit
theorem zA (ρ:Env) (b:Bd) (l:List SV):(SV.agg l).den ρ b= .agg (SV.denL ρ b l).toArray:=by simp only[SV.den]
theorem zh (ρ:Env) (b:Bd) (k:IntKind) (r:R):(SV.int k r).den ρ b= .int k (r.e.i ρ):=by simp only[SV.den]
theorem k8 (ρ:Env) (h:ρ.et=44) (r:R) (b:Bd):(SV.err r).den ρ b=qp (r.e.i ρ):=by
 simp only[SV.den,h]
 rfl
end Go.Proofs.YtoakpnoajmngmaaGreatDoor.Sx
namespace Go.Proofs.YtoakpnoajmngmaaGreatDoor.Sx
open Go.RowKit
structure Jm (fn:(Nat->GD)->Nat->List Int->Int) (fb:(Nat->GD)->Nat->List Int->Bool) (G:Nat->GD) (m:Nat->Int) (q:Nat->Bool) (ρ:Env):Prop where
 std:Std fn fb G ρ
 mn:ρ.mn=fun _ _=>[]
 at_:∀k,Nat.blt k 1000=true->ρ.iv k=m k
 bt:∀k,Nat.blt k 1000=true->ρ.bv k=q k
section
variable {fn:(Nat->GD)->Nat->List Int->Int} {fb:(Nat->GD)->Nat->List Int->Bool} {G:Nat->GD} {m:Nat->Int} {q:Nat->Bool}
theorem Jm.same {ρ ρ':Env} (h:Jm fn fb G m q ρ) (hs:Same ρ ρ' [] []):Jm fn fb G m q ρ':=⟨h.std.same hs,hs.mn.trans h.mn,fun k hk=>(zz hs hk).trans (h.at_ k hk),fun k hk=>(Z9 hs hk).trans (h.bt k hk)⟩
theorem Jm.start (fn:(Nat->GD)->Nat->List Int->Int) (fb:(Nat->GD)->Nat->List Int->Bool) (G:Nat->GD) (m:Nat->Int) (q:Nat->Bool):∃ρ,Jm fn fb G m q ρ:=⟨ja 44 m q (fn G) (fb G) (fun _ _=>[]) G,Std.gen () _ _ _,rfl,fun _ _=>rfl,fun _ _=>rfl⟩
theorem Std.elem {ρ:Env} (h:Std fn fb G ρ) {w:World} (hG:∀k,(G k).ok w) {k i:Nat} (hi:i<(G k).n) (hks:(G k).ks.length<=100):CK.elem ρ ((G k).ks.map vN) k i:=by
 intro j c hc
 rw[List.getElem?_map,Option.map_eq_some_iff]at hc
 obtain⟨x,hx,rfl⟩:=hc
 have hj:=(List.getElem?_eq_some_iff.1 hx).1
 have e1:1000<=CK.fid k j:=by unfold CK.fid;omega
 have e2:(CK.fid k j-1000)/100=k:=by unfold CK.fid;omega
 have e3:CK.fid k j%100=j:=by unfold CK.fid;omega
 rw[List.length_map]
 refine⟨?_,?_⟩
 ·rw[h.mv,gK hi hj]
  congr 1
  unfold GD.val
  rw[hx]
  cases x<;>simp[vN,CK.val,h.fn,h.fb,e1,e2,e3]
 ·cases x
  ·trivial
  ·have:=(hG k).b64 i j
   unfold B64 at this
   simpa [vN,CK.fits,h.fn,e1,e2,e3]using this
theorem Std.osl {ρ:Env} (h:Std fn fb G ρ) {w:World} (hG:∀k,(G k).ok w) {k:Nat} {sh:List CK} (hsh:(G k).ks.map vN=sh) (hks:(G k).ks.length<=100) {e:E} {lo hi:Int} (he:e.i ρ=(G k).n) (h0:0<=lo) (h1:lo<=(G k).n) (h2:((G k).n:Int)<=hi) (N:Nat->Prop) (b:Bd):
  (SV.osl k sh ⟨e,lo,hi⟩).ok ρ N/\(SV.osl k sh ⟨e,lo,hi⟩).den ρ b= .slice (G k).A (G k).n (G k).c:=by
 subst hsh
 have hl:e.i ρ=ρ.ol k:=by rw[he,h.ol]
 have hok:(SV.osl k ((G k).ks.map vN) ⟨e,lo,hi⟩).ok ρ N:=⟨⟨by show lo<=e.i ρ;rw[he];exact h1,by show e.i ρ<=hi;rw[he];exact h2⟩,h0,fun i hi'=>h.elem hG (by simp only[he]at hi';omega) hks,hl⟩
 exact⟨hok,h.slice hok⟩
theorem Jm.mem {ρ:Env} (h:Jm fn fb G m q ρ) {w:World} (hG:∀k,(G k).ok w):Mem ρ (· <w.heap.size) w:=by
 refine⟨?_,fun k i q v hv=>by rw[h.mn]at hv;cases hv⟩
 intro k i v hv
 rw[h.std.mv]at hv
 obtain⟨h1,h2,h3,h4⟩:=yi hv
 obtain⟨bl,off,e1,e2,e3⟩:=(hG k).cell _ _ h1 h2
 rw[h.std.ov]
 exact⟨bl,off,e1,e2,by rw[h4,h3];exact e3⟩
end
end Go.Proofs.YtoakpnoajmngmaaGreatDoor.Sx
namespace Go.Proofs.YtoakpnoajmngmaaGreatDoor.Sx
open Go.RowKit
def Wg (r:Option (T CR × List VC)) (v:SV) (l:List VC):Bool:=match r with
 |some (.leaf c,vs)=>c.v.same v&&vs.all fun v=>v.triv||l.any fun u=>u.same v
 |_=>false
theorem zgG {r:Option (T CR × List VC)} {v:SV} {l:List VC} (h:Wg r v l=true):∃c vs,r=some (.leaf c,vs)/\c.v=v/\∀ρ,jx ρ l->jx ρ vs:=by
 unfold Wg at h
 split at h
 ·rename_i c vs
  rw[Bool.and_eq_true,List.all_eq_true]at h
  refine⟨c,vs,rfl,SV.same_eq _ _ h.1,fun ρ hl v hv=>?_⟩
  have h2:=h.2 v hv
  rw[Bool.or_eq_true,List.any_eq_true]at h2
  rcases h2 with h2|⟨u,hu,h2⟩
  ·exact VC.triv_ok h2 ρ
  ·rw[<-VC.same_eq h2];exact hl u hu
 ·cases h
theorem Qg {P:Program} {et:TypeId} {cfg:Cfg} {f:FuncId} {args:List SV} {v:SV} {l:List VC} (r:Wg (zH P et cfg (zi P et) 20 [] f args [] 0) v l=true) (d:qL l [] []=[]) (ρ0:Env):
  ∃ρ,Same ρ0 ρ [] []/\qA ρ l/\∀(he:ρ.et=et) (hs:HOK P ρ cfg.sum) (b:Bd) (w:World) (ha:SV.okL ρ (· <0) args) (hm:Mem ρ (· <w.heap.size) w),
   Calls P f (SV.denL ρ b args).toArray w fun x w'=>(∃b',x= .returned (v.den ρ b'))/\Below w.heap.size w w':=by
 obtain⟨c,vs,h1,rfl,h3⟩:=zgG r
 obtain⟨ρ,hs,hy,hx⟩:=jg d rfl ρ0
 refine⟨ρ,hs,hy,fun he hsum b w ha hm=>?_⟩
 refine(Kj he hsum h1 (h3 ρ (hx (kT (show ye ρ []from trivial)))) b w (qU _ _ _ _) ha hm).mono ?_
 rintro x w' ⟨⟨b',y1,_⟩,y2⟩
 exact⟨⟨b',y1⟩,y2⟩
def is3 (err:Bool) (v:SV):Bool:=match v with
 | .int .i64 r=> !err&&r.e.same (.c 3)
 | .ifc t (.int .i64 r)=>err&&Nat.beq t 44&&r.e.same (.c 3)
 |_=>false
def v3 (err:Bool):Value:=if err then .iface 44 (.int .i64 3)else .int .i64 3
theorem zgH {err:Bool} {v:SV} (h:is3 err v=true) (ρ:Env) (b:Bd):v.den ρ b=v3 err:=by
 unfold is3 at h
 split at h
 ·rename_i r
  rw[Bool.and_eq_true]at h
  have he:err=false:=by cases err<;>simp_all
  have e1:r.e= .c 3:=E.same_eq h.2
  subst he
  rw[zh,e1]
  rfl
 ·rename_i t r
  rw[Bool.and_eq_true,Bool.and_eq_true]at h
  have he:=h.1.1
  have ht:=Nat.eq_of_beq_eq_true h.1.2
  have e1:r.e= .c 3:=E.same_eq h.2
  subst he ht
  show Value.iface _ (SV.den ρ b (.int .i64 r))=_
  rw[zh,e1]
  rfl
 ·cases h
end Go.Proofs.YtoakpnoajmngmaaGreatDoor.Sx
namespace Go.Proofs.YtoakpnoajmngmaaGreatDoor.Sx
def Zl:List SV:=[yn,.agg [zy 25,zy 26,zy 27],.agg [zy 28,zy 29,zy 30,zy 31,zy 32]]
def XL (args:List SV):Option (List E × SV):=if SV.sameL args [yn]then some ([],.nili)else none
def zld:zl:=ors [zb 126 XL]
def zle (args:List SV):Option (List E × SV):=if SV.sameL args Zl then some ([],.err ⟨kE 1,1,5⟩)else none
def zlf:zl:=ors [zb 112 zle]
end Go.Proofs.YtoakpnoajmngmaaGreatDoor.Sx
namespace Go.Proofs.YtoakpnoajmngmaaGreatDoor.Sx
def Mn:List (Nat × List (Nat × List Nat)):=[(82,[(0,[3,4,5,7]),(1,[3,4,5,7,9]),(2,[3,4,5,7,9,17]),(3,[6,7,8]),(4,[3,4,5,7,10]),(5,[3,4,5,7,10]),(6,[3,4,5,7,10,29]),(7,[3,4,5,7,10,29,30]),(8,[6,7,8]),(9,[3,4,5,7,10,39]),(10,[6,7,8]),(11,[3,4,5,7,10,42]),(12,[3,4,5,7,10]),(13,[3,4,5,7,10]),(14,[3,4,5,7,10,11]),(15,[3,4,5,7,11,75]),(16,[3,4,7,11]),(17,[6,7,8])]),
 (111,[(0,[0,3]),(1,[4])]),
 (112,[(0,[3,4,5]),(1,[3,4,5,7]),(2,[3,4,5,7,11]),(3,[6]),(4,[3,5,43]),(5,[6]),(6,[77]),(7,[6]),(8,[6])])]
def akV:List VC:=[qB 961304991230099496 (pO (pO (pO (pO (pU (pN (pL (.v 20) (.v 25)) (pL (.v 25) (.v 21)))) (pT (.v 26) (pS (.c 0) (.v 24)))) (pT (.v 24) (.v 26))) (pT (.v 27) (.c 0))) (pT (.c 3) (.v 27))),
 qB 1152012774566371510 (pO (pO (pO (pO (pO (pT (.v 28) (.c (-100))) (pT (.c 100) (.v 28))) (pT (.v 31) (.c 0))) (pT (.c 3) (.v 31))) (pT (.v 32) (pS (.c 0) (.v 24)))) (pT (.v 24) (.v 32)))]
def akE:E:=(.ite (.bv 961304991230099496) (.c 3) (.ite (.bv 1152012774566371510) (.c 1) (.c 0)))
theorem zqr (ρ:Env):akE.i ρ=(if(ρ.bv 961304991230099496)=true then(3:Int)else(if(ρ.bv 1152012774566371510)=true then(1:Int)else(0:Int))):=by kernel_rfl
def akR:SV:= .err ⟨akE,0,3⟩
theorem zlg:Wg (zH Tryz.prog 44 (qb zld Mn 50 100000) (zi Tryz.prog 44) 20 [] 112 Zl [] 0) akR akV=true:=by kernel_rfl
theorem zgI:qL akV [] []=[]:=by kernel_rfl
theorem zgJ (ρ:Env):qA ρ akV=(ρ.bv 961304991230099496=(((((!((decide ((ρ.iv 20)<=(ρ.iv 25)))&&(decide ((ρ.iv 25)<=(ρ.iv 21)))))||(decide ((ρ.iv 26)<((0:Int)-(ρ.iv 24)))))||(decide ((ρ.iv 24)<(ρ.iv 26))))||(decide ((ρ.iv 27)<(0:Int))))||(decide ((3:Int)<(ρ.iv 27))))/\
 ρ.bv 1152012774566371510=((((((decide ((ρ.iv 28)<(-100:Int)))||(decide ((100:Int)<(ρ.iv 28))))||(decide ((ρ.iv 31)<(0:Int))))||(decide ((3:Int)<(ρ.iv 31))))||(decide ((ρ.iv 32)<((0:Int)-(ρ.iv 24)))))||(decide ((ρ.iv 24)<(ρ.iv 32))))/\
 True):=by kernel_rfl
def awR:SV:= .tup [zI,.agg [zI,zI,zI],.err ⟨kE 1,1,5⟩]
theorem zlh:Wg (zH Tryz.prog 44 (qb zlf Mn 50 100000) (zi Tryz.prog 44) 20 [] 82 Zl [] 0) awR []=true:=by kernel_rfl
theorem zgK:qL [] [] []=[]:=by kernel_rfl
end Go.Proofs.YtoakpnoajmngmaaGreatDoor.Sx
namespace Go.Proofs.YtoakpnoajmngmaaGreatDoor.Sx
def zO:List (Nat × List (Nat × List Nat)):=[(6,[(0,[2,3]),(1,[2,3,5]),(2,[2,3,5,14]),(3,[4]),(4,[2,3,6]),(5,[2,3,6,7]),(6,[2,3,6,7,20]),(7,[2,3,6,7]),(8,[2,3,6,7]),(9,[2,3,6,8]),(10,[2,3,6,8,33]),(11,[2,3,6,8]),(12,[2,3,6,8,9]),(13,[2,3,6,8,9]),(14,[2,3,6,8,9,10]),(15,[2,3,6,8,9,10,71]),(16,[2,3,6,8,9,10]),(17,[2,3,6,8,9,10]),(18,[4])]),
 (7,[(0,[0]),(1,[0,3]),(2,[0,3,7]),(3,[0,3]),(4,[0,3,14]),(5,[2]),(6,[2])]),
 (8,[(0,[0,1]),(1,[1,5]),(2,[4]),(3,[4])]),
 (12,[(0,[2,3]),(1,[2,3,5]),(2,[2,3,5,17]),(3,[4]),(4,[2,3,6]),(5,[2,3,6,28,29]),(6,[2,3,6,28,29,30]),(7,[2,3,6,8,28,29]),(8,[2,3,6,28,29]),(9,[2,3,6,28,29]),(10,[3,6,40,41]),(11,[3,6,40,41,42]),(12,[3,6,9,10,40,41]),(13,[3,6,9,10,11,40,41]),(14,[3,6,9,11,40,41]),(15,[3,6,11,40,41,69,70,71]),(16,[3,6,11,40,41,69,70,71,72]),(17,[3,6,11,13,40,41,69,70,71]),(18,[3,6,11,40,41,69,70,71]),(19,[3,6,11,40,41,69,70,71]),(20,[3,6,40,41]),(21,[86]),(22,[4]),(23,[4])]),
 (19,[(0,[1]),(1,[1,3]),(2,[1,3,4]),(3,[1,3,4,6]),(4,[1,3,4]),(5,[1,3,4]),(6,[2])]),
 (20,[(0,[0,1,2]),(1,[6])]),
 (22,[(0,[3,4,5]),(1,[3,5,7]),(2,[3,7,8]),(3,[6])]),
 (23,[(0,[1,2]),(1,[2])]),
 (25,[(0,[1,2]),(1,[2])]),
 (37,[(0,[1,2]),(1,[1,2,3]),(2,[2])]),
 (45,[(0,[1]),(1,[1,7,8]),(2,[1,7,8,9]),(3,[1,4,7,8]),(4,[1,5,7,8]),(5,[1,5,7,8,14]),(6,[2]),(7,[1,7,8]),(8,[2])])]
def hmV:List VC:=[qB 1695554433550934471 (pN (pN (pN (pL (.v 20) (.v 25)) (pL (.v 25) (.v 21))) (pN (pL (pS (.c 0) (.v 24)) (.v 26)) (pL (.v 26) (.v 24)))) (pN (pL (.c 0) (.v 27)) (pL (.v 27) (.c 3)))),
 qN 1158032721331210818 (.ite (pU (pQ (.ite (pU (.bv 1695554433550934471)) (.c 3) (.c 0)) (.c 0))) (.ite (pU (.bv 1695554433550934471)) (.c 3) (.c 0)) (.c 0))]
def hmR:SV:= .int .i64 ⟨(.v 1158032721331210818),0,3⟩
theorem zli:Wg (zH Tryz.prog 44 (qb zlb zO 50 100000) (zi Tryz.prog 44) 20 [] 22 Me [] 0) hmR hmV=true:=by kernel_rfl
theorem zgL:qL hmV [] []=[]:=by kernel_rfl
theorem zgM (ρ:Env):qA ρ hmV=(ρ.bv 1695554433550934471=((((decide ((ρ.iv 20)<=(ρ.iv 25)))&&(decide ((ρ.iv 25)<=(ρ.iv 21))))&&((decide (((0:Int)-(ρ.iv 24))<=(ρ.iv 26)))&&(decide ((ρ.iv 26)<=(ρ.iv 24)))))&&((decide ((0:Int)<=(ρ.iv 27)))&&(decide ((ρ.iv 27)<=(3:Int)))))/\
 ρ.iv 1158032721331210818=(if(!(decide ((if(!(ρ.bv 1695554433550934471))=true then(3:Int)else(0:Int))=(0:Int))))=true then(if(!(ρ.bv 1695554433550934471))=true then(3:Int)else(0:Int))else(0:Int))/\
 True):=by kernel_rfl
def hmE:E:=(.v 1158032721331210818)
theorem zqs (ρ:Env):hmE.i ρ=(ρ.iv 1158032721331210818):=by kernel_rfl
def znT:List VC:=[qN 2223695537087473782 (.ite (pU (pQ (.ite (pU (pQ (.ap 600 .nil) (.c 0))) (.ap 600 .nil) (.c 0)) (.c 0))) (.ite (pU (pQ (.ap 600 .nil) (.c 0))) (.ap 600 .nil) (.c 0)) (.ite (pU (pQ (.ap 601 .nil) (.c 0))) (.ap 601 .nil) (.c 0))),
 qN 1193261643602140907 (.ite (pU (pQ (.v 2223695537087473782) (.c 0))) (.v 2223695537087473782) (.ite (pU (pQ (.ap 602 .nil) (.c 0))) (.ap 602 .nil) (.c 0)))]
def znU:SV:= .int .i64 ⟨(.v 1193261643602140907),0,5⟩
theorem zgN:Wg (zH Tryz.prog 44 (qb zgu zO 50 100000) (zi Tryz.prog 44) 20 [] 19 [jo] [] 0) znU znT=true:=by kernel_rfl
theorem zb1:qL znT [] []=[]:=by kernel_rfl
theorem zb2 (ρ:Env):qA ρ znT=(ρ.iv 2223695537087473782=(if(!(decide ((if(!(decide ((ρ.fn 600 [])=(0:Int))))=true then(ρ.fn 600 [])else(0:Int))=(0:Int))))=true then(if(!(decide ((ρ.fn 600 [])=(0:Int))))=true then(ρ.fn 600 [])else(0:Int))else(if(!(decide ((ρ.fn 601 [])=(0:Int))))=true then(ρ.fn 601 [])else(0:Int)))/\
 ρ.iv 1193261643602140907=(if(!(decide ((ρ.iv 2223695537087473782)=(0:Int))))=true then(ρ.iv 2223695537087473782)else(if(!(decide ((ρ.fn 602 [])=(0:Int))))=true then(ρ.fn 602 [])else(0:Int)))/\
 True):=by kernel_rfl
def zpB:E:=(.v 1193261643602140907)
theorem znV (ρ:Env):zpB.i ρ=(ρ.iv 1193261643602140907):=by kernel_rfl
def zpC:List VC:=[]
def zpD:SV:= .err ⟨(.ite (pU (pQ (.ap 600 .nil) (.c 0))) (.ap 600 .nil) (.ite (pU (pQ (.ap 601 .nil) (.c 0))) (.ap 601 .nil) (.ap 602 .nil))),0,5⟩
theorem zgO:Wg (zH Tryz.prog 44 (qb zgu zO 50 100000) (zi Tryz.prog 44) 20 [] 45 [jo] [] 0) zpD zpC=true:=by kernel_rfl
theorem zb3:qL zpC [] []=[]:=by kernel_rfl
def zpE:E:=(.ite (pU (pQ (.ap 600 .nil) (.c 0))) (.ap 600 .nil) (.ite (pU (pQ (.ap 601 .nil) (.c 0))) (.ap 601 .nil) (.ap 602 .nil)))
theorem znW (ρ:Env):zpE.i ρ=(if(!(decide ((ρ.fn 600 [])=(0:Int))))=true then(ρ.fn 600 [])else(if(!(decide ((ρ.fn 601 [])=(0:Int))))=true then(ρ.fn 601 [])else(ρ.fn 602 []))):=by kernel_rfl
def zpF:List VC:=[]
def zpG:SV:= .int .i64 ⟨(.ap 603 .nil),1,5⟩
theorem zgP:Wg (zH Tryz.prog 44 (qb zgv zO 50 100000) (zi Tryz.prog 44) 20 [] 6 [jo,xE] [] 0) zpG zpF=true:=by kernel_rfl
theorem zb4:qL zpF [] []=[]:=by kernel_rfl
def zpH:E:=(.ap 603 .nil)
theorem znX (ρ:Env):zpH.i ρ=(ρ.fn 603 []):=by kernel_rfl
def zpI:List VC:=[]
def znY:SV:= .ifc 44 (.int .i64 ⟨(.ap 603 .nil),1,5⟩)
theorem zgQ:Wg (zH Tryz.prog 44 (qb zgv zO 50 100000) (zi Tryz.prog 44) 20 [] 12 [jo,xE] [] 0) znY zpI=true:=by kernel_rfl
theorem zb5:qL zpI [] []=[]:=by kernel_rfl
def zng:E:=(.ap 603 .nil)
theorem zlj (ρ:Env):zng.i ρ=(ρ.fn 603 []):=by kernel_rfl
end Go.Proofs.YtoakpnoajmngmaaGreatDoor.Sx
namespace Go.Proofs.YtoakpnoajmngmaaGreatDoor.Sx
open Go.RowKit
def wS (r:Option (T CR × List VC)) (err:Bool):Bool:=match r with
 |some (.leaf c,vs)=>is3 err c.v&&(qL (vs.filter fun v=> !v.triv) [] []).isEmpty
 |_=>false
theorem znZ {P:Program} {et:TypeId} {cfg:Cfg} {f:FuncId} {args:List SV} {err:Bool} (r:wS (zH P et cfg (zi P et) 20 [] f args [] 0) err=true) (ρ0:Env):
  ∃ρ,Same ρ0 ρ [] []/\∀(he:ρ.et=et) (hs:HOK P ρ cfg.sum) (b:Bd) (w:World) (ha:SV.okL ρ (· <0) args) (hm:Mem ρ (· <w.heap.size) w),
   Calls P f (SV.denL ρ b args).toArray w fun x w'=>x= .returned (v3 err)/\Below w.heap.size w w':=by
 unfold wS at r
 split at r
 ·rename_i c vs hc
  rw[Bool.and_eq_true]at r
  obtain⟨ρ,hs,hy,hx⟩:=jg (List.isEmpty_iff.1 r.2) rfl ρ0
  have hall:jx ρ vs:=fun v hv=>by
   by_cases ht:v.triv=true
   ·exact VC.triv_ok ht ρ
   ·exact hx (kT (show ye ρ []from trivial)) v (List.mem_filter.2 ⟨hv,by simpa using ht⟩)
  refine⟨ρ,hs,fun he hsum b w ha hm=>?_⟩
  refine(Kj he hsum hc hall b w (qU _ _ _ _) ha hm).mono ?_
  rintro x w' ⟨⟨b',y1,_⟩,y2⟩
  exact⟨by rw[y1,zgH r.1],y2⟩
 ·cases r
def dfB (l:List VC) (n:Nat):Option E:=match l with
 |[]=>none
 |v::r=>match zax v with
  | .b h e=>if Nat.beq h n then some e else dfB r n
  |_=>dfB r n
def dfN (l:List VC) (n:Nat):Option E:=match l with
 |[]=>none
 |v::r=>match zax v with
  | .n h e=>if Nat.beq h n then some e else dfN r n
  |_=>dfN r n
theorem Mo {ρ:Env} {n:Nat} {e:E}:∀ {l:List VC},qA ρ l->dfB l n=some e->ρ.bv n=e.b ρ
 |v::r,hs,h=>by
  unfold dfB at h
  split at h
  ·rename_i k a hd
   split at h
   ·rename_i hk
    cases h
    have h1:v.says ρ:=hs.1
    unfold VC.says at h1
    rw[hd]at h1
    rw[<-Nat.eq_of_beq_eq_true hk]
    exact h1
   ·exact Mo hs.2 h
  ·exact Mo hs.2 h
theorem Mp {ρ:Env} {n:Nat} {e:E}:∀ {l:List VC},qA ρ l->dfN l n=some e->ρ.iv n=e.i ρ
 |v::r,hs,h=>by
  unfold dfN at h
  split at h
  ·rename_i k a hd
   split at h
   ·rename_i hk
    cases h
    have h1:v.says ρ:=hs.1
    unfold VC.says at h1
    rw[hd]at h1
    rw[<-Nat.eq_of_beq_eq_true hk]
    exact h1
   ·exact Mp hs.2 h
  ·exact Mp hs.2 h
def cjL (l:List VC):Nat->E->List E
 |0,e=>[e]
 |k+1,e=>match e with
  | .bin .and a b=>cjL l k a++cjL l k b
  | .bv n=>match dfB l n with
    |some a=>cjL l k a
    |none=>[e]
  |_=>[e]
theorem XM {ρ:Env} {l:List VC} (hs:qA ρ l):∀(k:Nat) (e:E),e.b ρ=true↔∀x∈cjL l k e,x.b ρ=true
 |0,e=>by simp[cjL]
 |k+1,e=>by
  unfold cjL
  split
  ·rename_i a b
   rw[List.forall_mem_append,<-XM hs k a,<-XM hs k b]
   show(a.b ρ&&b.b ρ)=true↔_
   rw[Bool.and_eq_true]
  ·rename_i n
   split
   ·rename_i a hd
    rw[<-XM hs k a,<-Mo hs hd]
    rfl
   ·simp
  ·simp
def dfE (l:List VC) (e:E):E:=match e with
 | .v n=>match dfN l n with
   |some a=>a
   |none=>e
 |_=>e
theorem zlk {ρ:Env} {l:List VC} (hs:qA ρ l) (e:E):(dfE l e).i ρ=e.i ρ:=by
 unfold dfE
 split
 ·split
  ·rename_i n a hd
   exact(Mp hs hd).symm
  ·rfl
 ·rfl
def un3 (e:E):Option E:=match e with
 | .ite (.un .not d) (.c z) (.c y)=>if decide (z=3)&&decide (y=0)then some d else none
 |_=>none
def znh (l:List VC) (m:List E) (e:E):Bool:=match un3 (dfE l e)with
 |some d=>(cjL l 40 d).all (fun x=>m.any fun y=>x.same y)&&m.all fun y=>(cjL l 40 d).any fun x=>x.same y
 |none=>false
theorem Mq {ρ:Env} {l m:List VC} {a:List E} {e:E} (hs:qA ρ l) (h:znh l a e=true):e.i ρ=if(a.all fun x=>x.b ρ)=true then 0 else 3:=by
 unfold znh at h
 split at h
 ·rename_i d hu
  rw[Bool.and_eq_true,List.all_eq_true,List.all_eq_true]at h
  rw[<-zlk hs e]
  unfold un3 at hu
  split at hu
  ·rename_i d' z y he
   split at hu
   ·rename_i hz
    cases hu
    rw[Bool.and_eq_true,decide_eq_true_eq,decide_eq_true_eq]at hz
    rw[he,hz.1,hz.2]
    have hc:d.b ρ=true↔(a.all fun x=>x.b ρ)=true:=by
     rw[XM hs 40 d,List.all_eq_true]
     refine⟨fun hh y hy=>?_,fun hh x hx=>?_⟩
     ·obtain⟨x,hx,he⟩:=List.any_eq_true.1 (h.2 y hy)
      rw[<-E.same_eq he];exact hh x hx
     ·obtain⟨y,hy,he⟩:=List.any_eq_true.1 (h.1 x hx)
      rw[E.same_eq he];exact hh y hy
    show(if(!(d.b ρ))=true then(3:Int)else 0)=_
    by_cases hd:d.b ρ=true
    ·rw[if_pos (hc.1 hd),hd];rfl
    ·rw[if_neg (fun hh=>hd (hc.2 hh))]
     rw[Bool.not_eq_true]at hd
     rw[hd];rfl
   ·cases hu
  ·cases hu
 ·cases h
def stV (er:Bool) (z:Int):Value:=if er=true then qp z else .int .i64 z
def Qh (r:Option (T CR × List VC)) (err:Bool) (m:List E):Bool:=match r with
 |some (.leaf c,vs)=>(qL (vs.filter fun v=> !v.triv) [] []).isEmpty&&match c.v with
  | .int .i64 r=> !err&&znh (vs.filter fun v=> !v.triv) m r.e
  | .err r=>err&&znh (vs.filter fun v=> !v.triv) m r.e
  |_=>false
 |_=>false
theorem zll {P:Program} {cfg:Cfg} {f:FuncId} {args:List SV} {err:Bool} {m:List E} (r:Qh (zH P 44 cfg (zi P 44) 20 [] f args [] 0) err m=true) (ρ0:Env):
  ∃ρ,Same ρ0 ρ [] []/\∀(he:ρ.et=44) (hs:HOK P ρ cfg.sum) (b:Bd) (w:World) (ha:SV.okL ρ (· <0) args) (hm:Mem ρ (· <w.heap.size) w),
   Calls P f (SV.denL ρ b args).toArray w fun x w'=>x= .returned (stV err (if(m.all fun x=>x.b ρ)=true then 0 else 3))/\Below w.heap.size w w':=by
 unfold Qh at r
 split at r
 ·rename_i c vs hc
  rw[Bool.and_eq_true]at r
  obtain⟨ρ,hs,hy,hx⟩:=jg (List.isEmpty_iff.1 r.1) rfl ρ0
  have hall:jx ρ vs:=fun v hv=>by
   by_cases ht:v.triv=true
   ·exact VC.triv_ok ht ρ
   ·exact hx (kT (show ye ρ []from trivial)) v (List.mem_filter.2 ⟨hv,by simpa using ht⟩)
  refine⟨ρ,hs,fun he hsum b w ha hm=>?_⟩
  refine(Kj he hsum hc hall b w (qU _ _ _ _) ha hm).mono ?_
  rintro x w' ⟨⟨b',y1,_⟩,y2⟩
  refine⟨?_,y2⟩
  rw[y1]
  have r2:=r.2
  split at r2
  ·rename_i q hv
   rw[Bool.and_eq_true]at r2
   rw[hv,zh,Mq (m:=[]) hy r2.2]
   cases err
   ·rfl
   ·cases r2.1
  ·rename_i q hv
   rw[Bool.and_eq_true]at r2
   rw[hv,k8 ρ he q b',Mq (m:=[]) hy r2.2]
   cases err
   ·cases r2.1
   ·rfl
  ·cases r2
 ·cases r
def zb6 (a b:Nat):List E:=[.bin .le (.c 0) (.v 170),.bin .le (.v 170) (.c 3),zer (kE 610),zer (kE 611),zer (kE 612),.bin .eq (.c a) (.v 24),zer (kE 620),.bin .eq (.c b) (.v 44),zer (kE 621)]++(List.range a).map (fun j=>zer (kE (630+j)))++(List.range b).map (fun j=>zer (kE (640+j)))
end Go.Proofs.YtoakpnoajmngmaaGreatDoor.Sx
namespace Go.Proofs.YtoakpnoajmngmaaGreatDoor.Sx
def jF:List SV:=[vi 20 (-100000) 100000,vi 21 (-100000) 100000,vi 22 0 1000,vi 23 0 65536,vi 24 1 4000,qS 0 100,qS 1 101]
def jp:List SV:=[vi 25 (-100000) 100000,vi 26 (-4000) 4000,vi 27 0 3]
def gU:List SV:=[vi 28 (-100) 100,vi 29 (-1000000) 1000000,vi 30 (-1000000) 1000000,vi 31 0 3,vi 32 (-4000) 4000]
def vC:List SV:=[.agg jF,.agg jp,.agg gU,vi 33 (-4000) 4000,vi 34 (-4000) 4000]
def eOf:List SV->Option (List E)
 |[]=>some []
 | .int .i64 r::l=>(eOf l).map (r.e::·)
 |_=>none
def eIs (l:List SV) (m:List E):Bool:=match eOf l with
 |some k=>jv k m
 |none=>false
def ze9:List E:=[.v 28,.v 29,.v 30,.v 31,.v 32]
def Qi (l:List SV):Bool:=eIs l ze9||eIs l [.v 28,.v 29,.v 30,.c 0,.v 32]
def gV (args:List SV):Option (List E × SV):=if SV.sameL args [.agg jF,.agg jp,.agg gU]then some ([],.nili)else none
def zb7 (H:List (Nat × HEnt)) (v:SV) (a b:E):Bool:=match v with
 | .sl n 0 2 _=>match zB H n with
   |some ⟨[],⟨cells,_,_⟩⟩=>eIs cells [a,b]
   |_=>false
 |_=>false
def Mr (args:List SV) (H:List (Nat × HEnt)):Option (List E × SV):=match args with
 |[.agg [.int .i64 lo,.int .i64 hi,.int .i64 tu,.int .i64 bu,.int .i64 mo,g,d],.int .i64 aim,.agg ask]=>if jv [lo.e,hi.e,tu.e,bu.e,mo.e,aim.e] [.v 20,.v 21,.v 22,.v 23,.v 24,.v 25]&&Qi ask&&zb7 H g (.c 0) (.c 1)&&zb7 H d (.v 23) (.v 23)then some ([],kI 1 (-2147483647) 2147483647)else none
 |_=>none
def Ye (args:List SV):Option (List E × SV):=match args with
 |[.int .i64 bu,.int .i64 aim,.agg ask]=>if jv [bu.e,aim.e] [.v 23,.v 25]&&Qi ask then some ([],kI 1 (-2147483647) 2147483647)else none
 |_=>none
def XN (args:List SV):Option (List E × SV):=match args with
 |[.int .i64 x,.int .i64 lo,.int .i64 hi]=>if jv [x.e,lo.e,hi.e] [.bin .add (.v 26) (kE 1),ze5 (.v 24),.v 24]then some ([],kI 2 (-4000) 4000)else none
 |_=>none
def zgR:zl:=ors [zb 112 gV,jn 113 Mr,zb 80 XN,zb 100 Ye,zb 65 XN]
end Go.Proofs.YtoakpnoajmngmaaGreatDoor.Sx
namespace Go.Proofs.YtoakpnoajmngmaaGreatDoor.Sx
def Zm:List SV:=[.agg jF,.agg jp,.agg gU]
def ap1 (id:Nat) (a:E):E:= .ap id (.cons a .nil)
def ap3 (id:Nat) (a b c:E):E:= .ap id (.cons a (.cons b (.cons c .nil)))
def XO (args:List SV):Option (List E × SV):=match args with
 |[.int .i64 x,.int .i64 lo,.int .i64 hi]=>if jv [lo.e,hi.e] [.v 20,.v 21]||jv [lo.e,hi.e] [ze5 (.v 24),.v 24]then some ([],.int .i64 ⟨ap3 900 x.e lo.e hi.e,lo.lo,hi.hi⟩)else none
 |_=>none
def Qj (l:List SV):Bool:=match l with
 |[.int .i64 a,.int .i64 b,.int .i64 c,.int .i64 _,.int .i64 d]=>jv [a.e,b.e,c.e,d.e] [.v 28,.v 29,.v 30,.v 32]
 |_=>false
def Qk (a:R):Option (List E × SV):=if decide (-1000000<=a.lo)&&decide (a.hi<=1000000)then some ([],.int .i64 ⟨ap1 901 a.e,-2147483647,2147483647⟩)else none
def Ms (args:List SV):Option (List E × SV):=match args with
 |[rule,.int .i64 a,.agg ask]=>if SV.sameL [rule] [.agg jF]&&Qj ask then Qk a else none
 |_=>none
def Yf (args:List SV):Option (List E × SV):=match args with
 |[.int .i64 g,.int .i64 a,.agg ask]=>if g.e.same (kE 5)&&Qj ask then Qk a else none
 |_=>none
def Mt (args:List SV):Option (List E × SV):=match args with
 |[line,.int .i64 x]=>if SV.sameL [line] [.agg [qS 0 100,qS 1 101]]&&x.e.same (.v 30)then some ([],kI 5 (-9223372036854775808) 9223372036854775807)else none
 |_=>none
def zgS:zl:=ors [zb 112 gV,zb 113 Ms,zb 80 XO,zb 100 Yf,zb 65 XO,zb 101 Mt]
end Go.Proofs.YtoakpnoajmngmaaGreatDoor.Sx
namespace Go.Proofs.YtoakpnoajmngmaaGreatDoor.Sx
def Mu:List (Nat × List (Nat × List Nat)):=[(67,[(0,[3,4,5,7]),(1,[3,4,5,7,8]),(2,[3,4,5,7,8]),(3,[3,4,5,7,8,20]),(4,[6,7]),(5,[3,4,5,7,8,29]),(6,[6,7]),(7,[3,4,5,7,8,31]),(8,[3,4,5,7,8]),(9,[3,4,5,7,8]),(10,[3,4,5,7,8,9]),(11,[3,4,5,7,9,67]),(12,[3,4,7,9]),(13,[6,7])]),
 (82,[(0,[3,4,5,7]),(1,[3,4,5,7,9]),(2,[3,4,5,7,9,17]),(3,[6,7,8]),(4,[3,4,5,7,10]),(5,[3,4,5,7,10]),(6,[3,4,5,7,10,29]),(7,[3,4,5,7,10,29,30]),(8,[6,7,8]),(9,[3,4,5,7,10,39]),(10,[6,7,8]),(11,[3,4,5,7,10,42]),(12,[3,4,5,7,10]),(13,[3,4,5,7,10]),(14,[3,4,5,7,10,11]),(15,[3,4,5,7,11,75]),(16,[3,4,7,11]),(17,[6,7,8])]),
 (99,[(0,[0,1]),(1,[0,1,6]),(2,[4]),(3,[4])])]
def zn0:List VC:=[qN 1325065460667011961 (.ite (pU (pQ (.v 31) (.v 27))) (.ap 900 (.cons (.v 29) (.cons (.v 20) (.cons (.v 21) .nil)))) (.v 25)),
 qN 896336781872324801 (.ap 900 (.cons (pA (.v 1325065460667011961) (.bin .quo (pM (.v 28) (.v 22)) (.c 100))) (.cons (.v 20) (.cons (.v 21) .nil)))),
 qN 279284517023561344 (.ite (pU (pQ (.v 31) (.v 27))) (.ap 900 (.cons (pS (.v 32) (.ap 901 (.cons (.v 896336781872324801) .nil))) (.cons (pS (.c 0) (.v 24)) (.cons (.v 24) .nil)))) (.v 26)),
 qN 2196914262990203709 (.ap 900 (.cons (pA (.ap 901 (.cons (.v 896336781872324801) .nil)) (.v 279284517023561344)) (.cons (pS (.c 0) (.v 24)) (.cons (.v 24) .nil))))]
def zgT:E:=(.ite (pQ (.v 31) (.c 2)) (.bin .quo (pM (.v 28) (.v 24)) (.c 100)) (.ite (pQ (.v 31) (.c 3)) (.c 0) (.v 2196914262990203709)))
def zgU:E:=(.ite (pQ (.v 31) (.c 2)) (.v 25) (.ite (pQ (.v 31) (.c 3)) (.v 25) (.ap 900 (.cons (pA (.v 1325065460667011961) (.bin .quo (pM (.v 28) (.v 22)) (.c 100))) (.cons (.v 20) (.cons (.v 21) .nil))))))
def zgV:E:=(.ite (pQ (.v 31) (.c 2)) (.v 26) (.ite (pQ (.v 31) (.c 3)) (.v 26) (.ite (pU (pQ (.v 31) (.v 27))) (.ap 900 (.cons (pS (.v 32) (.ap 901 (.cons (.v 896336781872324801) .nil))) (.cons (pS (.c 0) (.v 24)) (.cons (.v 24) .nil)))) (.v 26))))
def zgW:E:=(.v 31)
def zn1:SV:= .tup [.int .i64 ⟨zgT,-400000,400000⟩,.agg [.int .i64 ⟨zgU,-100000,100000⟩,.int .i64 ⟨zgV,-4000,4000⟩,.int .i64 ⟨zgW,0,3⟩],.nili]
theorem zgX:Wg (zH Tryz.prog 44 (qb zgS Mu 50 100000) (zi Tryz.prog 44) 20 [] 82 Zm [] 0) zn1 zn0=true:=by kernel_rfl
theorem zb8:qL zn0 [] []=[]:=by kernel_rfl
theorem zb9 (ρ:Env):qA ρ zn0=(ρ.iv 1325065460667011961=(if(!(decide ((ρ.iv 31)=(ρ.iv 27))))=true then(ρ.fn 900 ((ρ.iv 29)::((ρ.iv 20)::((ρ.iv 21)::[]))))else(ρ.iv 25))/\
 ρ.iv 896336781872324801=(ρ.fn 900 (((ρ.iv 1325065460667011961)+(Int.tdiv ((ρ.iv 28)*(ρ.iv 22)) (100:Int)))::((ρ.iv 20)::((ρ.iv 21)::[]))))/\
 ρ.iv 279284517023561344=(if(!(decide ((ρ.iv 31)=(ρ.iv 27))))=true then(ρ.fn 900 (((ρ.iv 32)-(ρ.fn 901 ((ρ.iv 896336781872324801)::[])))::(((0:Int)-(ρ.iv 24))::((ρ.iv 24)::[]))))else(ρ.iv 26))/\
 ρ.iv 2196914262990203709=(ρ.fn 900 (((ρ.fn 901 ((ρ.iv 896336781872324801)::[]))+(ρ.iv 279284517023561344))::(((0:Int)-(ρ.iv 24))::((ρ.iv 24)::[]))))/\
 True):=by kernel_rfl
theorem zlm (ρ:Env):zgT.i ρ=(if(decide ((ρ.iv 31)=(2:Int)))=true then(Int.tdiv ((ρ.iv 28)*(ρ.iv 24)) (100:Int))else(if(decide ((ρ.iv 31)=(3:Int)))=true then(0:Int)else(ρ.iv 2196914262990203709))):=by kernel_rfl
theorem zln (ρ:Env):zgU.i ρ=(if(decide ((ρ.iv 31)=(2:Int)))=true then(ρ.iv 25)else(if(decide ((ρ.iv 31)=(3:Int)))=true then(ρ.iv 25)else(ρ.fn 900 (((ρ.iv 1325065460667011961)+(Int.tdiv ((ρ.iv 28)*(ρ.iv 22)) (100:Int)))::((ρ.iv 20)::((ρ.iv 21)::[])))))):=by kernel_rfl
theorem zlo (ρ:Env):zgV.i ρ=(if(decide ((ρ.iv 31)=(2:Int)))=true then(ρ.iv 26)else(if(decide ((ρ.iv 31)=(3:Int)))=true then(ρ.iv 26)else(if(!(decide ((ρ.iv 31)=(ρ.iv 27))))=true then(ρ.fn 900 (((ρ.iv 32)-(ρ.fn 901 ((ρ.iv 896336781872324801)::[])))::(((0:Int)-(ρ.iv 24))::((ρ.iv 24)::[]))))else(ρ.iv 26)))):=by kernel_rfl
theorem zlp (ρ:Env):zgW.i ρ=(ρ.iv 31):=by kernel_rfl
def zn2:List VC:=[qN 616088112800622378 (.ite (pT (.v 28) (.c 0)) (pS (.c 0) (.bin .div (pM (pS (.c 0) (.v 28)) (.v 24)) (.c 100))) (.bin .div (pM (.v 28) (.v 24)) (.c 100))),
 qN 1325065460667011961 (.ite (pU (pQ (.v 31) (.v 27))) (.ap 900 (.cons (.v 29) (.cons (.v 20) (.cons (.v 21) .nil)))) (.v 25)),
 qN 903669987381921532 (pA (.v 1325065460667011961) (.ite (pT (.v 28) (.c 0)) (pS (.c 0) (.bin .div (pM (pS (.c 0) (.v 28)) (.v 22)) (.c 100))) (.bin .div (pM (.v 28) (.v 22)) (.c 100)))),
 qN 1597464287104305264 (pS (.v 32) (.ap 901 (.cons (.ap 900 (.cons (.v 903669987381921532) (.cons (.v 20) (.cons (.v 21) .nil)))) .nil))),
 qN 1939759017922452481 (.ite (pU (pQ (.v 31) (.v 27))) (.ap 900 (.cons (.v 1597464287104305264) (.cons (pS (.c 0) (.v 24)) (.cons (.v 24) .nil)))) (.v 26)),
 qN 1277635821692467604 (pA (.ap 901 (.cons (.ap 900 (.cons (.v 903669987381921532) (.cons (.v 20) (.cons (.v 21) .nil)))) .nil)) (.v 1939759017922452481))]
def zgY:E:=(.ite (pQ (.v 31) (.c 2)) (.v 616088112800622378) (.ite (pQ (.v 31) (.c 3)) (.c 0) (.ap 900 (.cons (.v 1277635821692467604) (.cons (pS (.c 0) (.v 24)) (.cons (.v 24) .nil))))))
def zgZ:E:=(.ite (pQ (.v 31) (.c 2)) (.v 25) (.ite (pQ (.v 31) (.c 3)) (.v 25) (.ap 900 (.cons (.v 903669987381921532) (.cons (.v 20) (.cons (.v 21) .nil))))))
def zg0:E:=(.ite (pQ (.v 31) (.c 2)) (.v 26) (.ite (pQ (.v 31) (.c 3)) (.v 26) (.ite (pU (pQ (.v 31) (.v 27))) (.ap 900 (.cons (.v 1597464287104305264) (.cons (pS (.c 0) (.v 24)) (.cons (.v 24) .nil)))) (.v 26))))
def zg1:E:=(.v 31)
def zn3:SV:= .tup [.int .i64 ⟨zgY,-4000,4000⟩,.agg [.int .i64 ⟨zgZ,-100000,100000⟩,.int .i64 ⟨zg0,-4000,4000⟩,.int .i64 ⟨zg1,0,3⟩]]
theorem zg2:Wg (zH Tryz.prog 44 (qb zgS Mu 50 100000) (zi Tryz.prog 44) 20 [] 67 Zm [] 0) zn3 zn2=true:=by kernel_rfl
theorem zca:qL zn2 [] []=[]:=by kernel_rfl
theorem zcb (ρ:Env):qA ρ zn2=(ρ.iv 616088112800622378=(if(decide ((ρ.iv 28)<(0:Int)))=true then((0:Int)-((((0:Int)-(ρ.iv 28))*(ρ.iv 24))/(100:Int)))else(((ρ.iv 28)*(ρ.iv 24))/(100:Int)))/\
 ρ.iv 1325065460667011961=(if(!(decide ((ρ.iv 31)=(ρ.iv 27))))=true then(ρ.fn 900 ((ρ.iv 29)::((ρ.iv 20)::((ρ.iv 21)::[]))))else(ρ.iv 25))/\
 ρ.iv 903669987381921532=((ρ.iv 1325065460667011961)+(if(decide ((ρ.iv 28)<(0:Int)))=true then((0:Int)-((((0:Int)-(ρ.iv 28))*(ρ.iv 22))/(100:Int)))else(((ρ.iv 28)*(ρ.iv 22))/(100:Int))))/\
 ρ.iv 1597464287104305264=((ρ.iv 32)-(ρ.fn 901 ((ρ.fn 900 ((ρ.iv 903669987381921532)::((ρ.iv 20)::((ρ.iv 21)::[]))))::[])))/\
 ρ.iv 1939759017922452481=(if(!(decide ((ρ.iv 31)=(ρ.iv 27))))=true then(ρ.fn 900 ((ρ.iv 1597464287104305264)::(((0:Int)-(ρ.iv 24))::((ρ.iv 24)::[]))))else(ρ.iv 26))/\
 ρ.iv 1277635821692467604=((ρ.fn 901 ((ρ.fn 900 ((ρ.iv 903669987381921532)::((ρ.iv 20)::((ρ.iv 21)::[]))))::[]))+(ρ.iv 1939759017922452481))/\
 True):=by kernel_rfl
theorem zlq (ρ:Env):zgY.i ρ=(if(decide ((ρ.iv 31)=(2:Int)))=true then(ρ.iv 616088112800622378)else(if(decide ((ρ.iv 31)=(3:Int)))=true then(0:Int)else(ρ.fn 900 ((ρ.iv 1277635821692467604)::(((0:Int)-(ρ.iv 24))::((ρ.iv 24)::[])))))):=by kernel_rfl
theorem zlr (ρ:Env):zgZ.i ρ=(if(decide ((ρ.iv 31)=(2:Int)))=true then(ρ.iv 25)else(if(decide ((ρ.iv 31)=(3:Int)))=true then(ρ.iv 25)else(ρ.fn 900 ((ρ.iv 903669987381921532)::((ρ.iv 20)::((ρ.iv 21)::[])))))):=by kernel_rfl
theorem zls (ρ:Env):zg0.i ρ=(if(decide ((ρ.iv 31)=(2:Int)))=true then(ρ.iv 26)else(if(decide ((ρ.iv 31)=(3:Int)))=true then(ρ.iv 26)else(if(!(decide ((ρ.iv 31)=(ρ.iv 27))))=true then(ρ.fn 900 ((ρ.iv 1597464287104305264)::(((0:Int)-(ρ.iv 24))::((ρ.iv 24)::[]))))else(ρ.iv 26)))):=by kernel_rfl
theorem zlt (ρ:Env):zg1.i ρ=(ρ.iv 31):=by kernel_rfl
end Go.Proofs.YtoakpnoajmngmaaGreatDoor.Sx
namespace Go.Proofs.YtoakpnoajmngmaaGreatDoor.Sx
def Ql:List (Nat × List (Nat × List Nat)):=[(167,[(0,[0]),(1,[5,6,7]),(2,[5,6,7,8]),(3,[4,5,6,7]),(4,[5,6,7,16]),(5,[2]),(6,[5,6,7]),(7,[2])])]
def XP:List SV:=[.osl 0 [.int .i64 (-9223372036854775808) 9223372036854775807] ⟨(.v 4),0,1000⟩]
def zlu:St:=⟨[(7,⟨[],.int .i64 ⟨(.v 13),0,1000⟩⟩),(6,⟨[],.int .i64 ⟨(.v 4),0,1000⟩⟩),(5,⟨[],.osl 0 [.int .i64 (-9223372036854775808) 9223372036854775807] ⟨(.v 4),0,1000⟩⟩)],[],0,19⟩
def zqt:List LS:=[⟨[],.normal,zlu,⟨[(13,(.c 0))],[]⟩⟩]
def zpJ:List VC:=[]
theorem zg3:ran (ya Tryz.prog 44 (qb jS Ql 50 12) 167 (qG Tryz.prog 167 0 2) (start Tryz.prog 167 XP [] 0)) zqt zpJ=true:=by kernel_rfl
def zpK:List VC:=[]
theorem zcc:qL zpJ [] []=zpK:=by kernel_rfl
theorem zlv:zpK.all VC.isNo=true:=by kernel_rfl
def zqu:List LS:=[⟨[(.bin .or (.bin .lt (.ap 1000 (.cons (.v 13) .nil)) (.c (-1000000))) (.bin .lt (.c 1000000) (.ap 1000 (.cons (.v 13) .nil)))),(.bin .lt (.v 13) (.v 4))],.ret,⟨[(2,⟨[],.ifc 44 (.int .i64 ⟨(.c 1),1,1⟩)⟩)],[],0,19⟩,⟨[],[]⟩⟩,
 ⟨[(.un .not (.bin .or (.bin .lt (.ap 1000 (.cons (.v 13) .nil)) (.c (-1000000))) (.bin .lt (.c 1000000) (.ap 1000 (.cons (.v 13) .nil))))),(.bin .lt (.v 13) (.v 4))],.normal,zlu,⟨[(13,(.bin .add (.v 13) (.c 1)))],[]⟩⟩,
 ⟨[(.bin .le (.v 4) (.v 13))],(.exit 0),zlu,⟨[],[]⟩⟩]
def zpL:List VC:=[]
theorem zg4:ran (ya Tryz.prog 44 (qb jS Ql 50 12) 167 (k9 Tryz.prog 167 2) zlu) zqu zpL=true:=by kernel_rfl
def zpM:List VC:=[]
theorem zcd:qL zpL [] []=zpM:=by kernel_rfl
theorem zlw:zpM.all VC.isNo=true:=by kernel_rfl
theorem zce (ρ:Env):kJ ρ [(.bin .or (.bin .lt (.ap 1000 (.cons (.v 13) .nil)) (.c (-1000000))) (.bin .lt (.c 1000000) (.ap 1000 (.cons (.v 13) .nil)))),(.bin .lt (.v 13) (.v 4))]=(((decide ((ρ.fn 1000 ((ρ.iv 13)::[]))<(-1000000:Int)))||(decide ((1000000:Int)<(ρ.fn 1000 ((ρ.iv 13)::[])))))=true/\(decide ((ρ.iv 13)<(ρ.iv 4)))=true/\True):=by kernel_rfl
theorem zcf (ρ:Env):kJ ρ [(.un .not (.bin .or (.bin .lt (.ap 1000 (.cons (.v 13) .nil)) (.c (-1000000))) (.bin .lt (.c 1000000) (.ap 1000 (.cons (.v 13) .nil))))),(.bin .lt (.v 13) (.v 4))]=((!((decide ((ρ.fn 1000 ((ρ.iv 13)::[]))<(-1000000:Int)))||(decide ((1000000:Int)<(ρ.fn 1000 ((ρ.iv 13)::[]))))))=true/\(decide ((ρ.iv 13)<(ρ.iv 4)))=true/\True):=by kernel_rfl
theorem zcg (ρ:Env):kJ ρ [(.bin .le (.v 4) (.v 13))]=((decide ((ρ.iv 4)<=(ρ.iv 13)))=true/\True):=by kernel_rfl
def zqv:List LS:=[⟨[],.ret,⟨[(2,⟨[],.nili⟩)],[],0,19⟩,⟨[],[]⟩⟩]
def zpN:List VC:=[]
theorem zg5:ran (ya Tryz.prog 44 (qb jS Ql 50 12) 167 (qG Tryz.prog 167 3 5) zlu) zqv zpN=true:=by kernel_rfl
def zpO:List VC:=[]
theorem zch:qL zpN [] []=zpO:=by kernel_rfl
theorem zlx:zpO.all VC.isNo=true:=by kernel_rfl
def Qm:List (Nat × List (Nat × List Nat)):=[(20,[(0,[0,1,2]),(1,[6])]),
 (132,[(0,[0]),(1,[0,3]),(2,[0,3,7]),(3,[0,3]),(4,[0,3,15]),(5,[2]),(6,[2])])]
def XQ:List SV:=[.osl 0 [.int .i64 (-9223372036854775808) 9223372036854775807] ⟨(.v 4),0,1000⟩]
def zly:St:=⟨[(3,⟨[],.int .i64 ⟨(.v 13),0,1000⟩⟩),(0,⟨[],.osl 0 [.int .i64 (-9223372036854775808) 9223372036854775807] ⟨(.v 4),0,1000⟩⟩)],[],0,16⟩
def zqw:List LS:=[⟨[],.normal,zly,⟨[(13,(.c 0))],[]⟩⟩]
def zpP:List VC:=[]
theorem zg6:ran (ya Tryz.prog 44 (qb jS Qm 50 12) 132 (qG Tryz.prog 132 0 2) (start Tryz.prog 132 XQ [] 0)) zqw zpP=true:=by kernel_rfl
def zpQ:List VC:=[]
theorem zci:qL zpP [] []=zpQ:=by kernel_rfl
theorem zlz:zpQ.all VC.isNo=true:=by kernel_rfl
def zqx:List LS:=[⟨[(.un .not (.bin .and (.bin .le (.c (-1000000)) (.ap 1000 (.cons (.v 13) .nil))) (.bin .le (.ap 1000 (.cons (.v 13) .nil)) (.c 1000000)))),(.bin .lt (.v 13) (.v 4))],.ret,⟨[(2,⟨[],.int .i64 ⟨(.c 1),1,1⟩⟩)],[],0,16⟩,⟨[],[]⟩⟩,
 ⟨[(.bin .and (.bin .le (.c (-1000000)) (.ap 1000 (.cons (.v 13) .nil))) (.bin .le (.ap 1000 (.cons (.v 13) .nil)) (.c 1000000))),(.bin .lt (.v 13) (.v 4))],.normal,zly,⟨[(13,(.bin .add (.v 13) (.c 1)))],[]⟩⟩,
 ⟨[(.bin .le (.v 4) (.v 13))],(.exit 0),zly,⟨[],[]⟩⟩]
def zpR:List VC:=[]
theorem zg7:ran (ya Tryz.prog 44 (qb jS Qm 50 12) 132 (k9 Tryz.prog 132 2) zly) zqx zpR=true:=by kernel_rfl
def zpS:List VC:=[]
theorem zcj:qL zpR [] []=zpS:=by kernel_rfl
theorem zlA:zpS.all VC.isNo=true:=by kernel_rfl
theorem zck (ρ:Env):kJ ρ [(.un .not (.bin .and (.bin .le (.c (-1000000)) (.ap 1000 (.cons (.v 13) .nil))) (.bin .le (.ap 1000 (.cons (.v 13) .nil)) (.c 1000000)))),(.bin .lt (.v 13) (.v 4))]=((!((decide ((-1000000:Int)<=(ρ.fn 1000 ((ρ.iv 13)::[]))))&&(decide ((ρ.fn 1000 ((ρ.iv 13)::[]))<=(1000000:Int)))))=true/\(decide ((ρ.iv 13)<(ρ.iv 4)))=true/\True):=by kernel_rfl
theorem zcl (ρ:Env):kJ ρ [(.bin .and (.bin .le (.c (-1000000)) (.ap 1000 (.cons (.v 13) .nil))) (.bin .le (.ap 1000 (.cons (.v 13) .nil)) (.c 1000000))),(.bin .lt (.v 13) (.v 4))]=(((decide ((-1000000:Int)<=(ρ.fn 1000 ((ρ.iv 13)::[]))))&&(decide ((ρ.fn 1000 ((ρ.iv 13)::[]))<=(1000000:Int))))=true/\(decide ((ρ.iv 13)<(ρ.iv 4)))=true/\True):=by kernel_rfl
theorem zcm (ρ:Env):kJ ρ [(.bin .le (.v 4) (.v 13))]=((decide ((ρ.iv 4)<=(ρ.iv 13)))=true/\True):=by kernel_rfl
def zqy:List LS:=[⟨[],.ret,⟨[(2,⟨[],.int .i64 ⟨(.c 0),0,0⟩⟩)],[],0,16⟩,⟨[],[]⟩⟩]
def zpT:List VC:=[]
theorem zg8:ran (ya Tryz.prog 44 (qb jS Qm 50 12) 132 (qG Tryz.prog 132 3 5) zly) zqy zpT=true:=by kernel_rfl
def zpU:List VC:=[]
theorem zcn:qL zpT [] []=zpU:=by kernel_rfl
theorem zlB:zpU.all VC.isNo=true:=by kernel_rfl
end Go.Proofs.YtoakpnoajmngmaaGreatDoor.Sx
namespace Go.Proofs.YtoakpnoajmngmaaGreatDoor.Sx
open Go.RowKit
structure One (g:GD) (ρ:Env):Prop where
 std:Std noF noB (one g) ρ
 len:ρ.iv 4=g.n
 small:g.n<=1000
theorem One.same {g:GD} {ρ ρ':Env} (h:One g ρ) (hs:Same ρ ρ' [] []):One g ρ':=⟨h.std.same hs,(zz hs rfl).trans h.len,h.small⟩
theorem One.el {g:GD} {ρ:Env} (h:One g ρ) (i:Int):ρ.fn 1000 [i]=g.f i.toNat:=h.std.e (k:=0) (j:=0) rfl i
structure WorthI (g:GD) (ρ:Env):Prop where
 one:One g ρ
 lo:0<=ρ.iv 13
 hi:ρ.iv 13<=g.n
 all:jO g.f (ρ.iv 13).toNat
structure WorthI2 (g:GD) (ρ:Env):Prop where
 i:WorthI g ρ
 all:jO g.f g.n
theorem WorthI.same {g:GD} {ρ ρ':Env} (h:WorthI g ρ) (hs:Same ρ ρ' [] []):WorthI g ρ'/\(g.n-ρ'.iv 13).toNat=(g.n-ρ.iv 13).toNat:=by
 have e:=zz hs (n:=13) rfl
 exact⟨⟨h.one.same hs,by rw[e];exact h.lo,by rw[e];exact h.hi,by rw[e];exact h.all⟩,by rw[e]⟩
theorem WorthI.next {g:GD} {ρ:Env} (h:WorthI g ρ) {σ:Sub} (h4:(ρ.sub σ).iv 4=ρ.iv 4) (h13:(ρ.sub σ).iv 13=ρ.iv 13+1) (c1: -1000000<=ρ.fn 1000 [ρ.iv 13]/\ρ.fn 1000 [ρ.iv 13]<=1000000) (c2:ρ.iv 13<ρ.iv 4):WorthI g (ρ.sub σ):=by
 have hl:=h.lo
 have hlen:=h.one.len
 rw[h.one.el]at c1
 refine⟨⟨h.one.std.sub σ,h4.trans hlen,h.one.small⟩,by rw[h13];omega,by rw[h13];omega,?_⟩
 rw[h13]
 intro k hk
 by_cases hk':k<(ρ.iv 13).toNat
 ·exact h.all k hk'
 ·have:k=(ρ.iv 13).toNat:=by omega
  subst this
  exact c1
theorem WorthI.bad {g:GD} {ρ:Env} (h:WorthI g ρ) (c1:¬(-1000000<=ρ.fn 1000 [ρ.iv 13]/\ρ.fn 1000 [ρ.iv 13]<=1000000)) (c2:ρ.iv 13<ρ.iv 4):z7 g.f g.n=1:=by
 have hl:=h.lo
 have hlen:=h.one.len
 rw[h.one.el]at c1
 exact vq (k:=(ρ.iv 13).toNat) (by omega) c1
theorem WorthI.done {g:GD} {ρ:Env} (h:WorthI g ρ) (c:ρ.iv 4<=ρ.iv 13):jO g.f g.n:=by
 have hlen:=h.one.len
 have hh:=h.hi
 have:(ρ.iv 13).toNat=g.n:=by omega
 rw[<-this]
 exact h.all
theorem JH {g:GD} {w:World} (o:g.ok w) (hk:g.ks=[true]) (hn:g.n<=1000) (b:Bd):∃ρ,One g ρ/\ρ.iv 13=0/\Mem ρ (· <w.heap.size) w/\∀hi:Int,(hi=1000->(SV.osl 0 [.int .i64 (-9223372036854775808) 9223372036854775807] ⟨.v 4,0,hi⟩).ok ρ (· <0)/\(SV.osl 0 [.int .i64 (-9223372036854775808) 9223372036854775807] ⟨.v 4,0,hi⟩).den ρ b= .slice g.A g.n g.c):=by
 obtain⟨⟨q1,q2,q3,q4⟩,q5⟩:=yj (et:=44) (iv:=fun n=>match n with|4=>g.n|_=>0) (bv:=fun _=>false) (fn:=noF (one g)) (fb:=noB (one g)) (fl:=fun _ _=>[]) (ze8 o) (k:=0) (m:=4) (sh:=[.int .i64 (-9223372036854775808) 9223372036854775807]) (by show g.ks.map vN=_;rw[hk];rfl) rfl (by show g.ks.length<=100;rw[hk];decide) (· <0) b
 refine⟨ja 44 (fun n=>match n with|4=>g.n|_=>0) (fun _=>false) (noF (one g)) (noB (one g)) (fun _ _=>[]) (one g),⟨Std.gen () _ _ _,rfl,hn⟩,rfl,wQ (ze8 o),fun hi hh=>?_⟩
 subst hh
 exact⟨⟨⟨q1.1,by show(g.n:Int)<=1000;omega⟩,by decide,q3,q4⟩,q5⟩
theorem zeN:qp 0= .nilIface:=rfl
set_option maxRecDepth 100000 in
theorem Vq (g:GD) (hk:g.ks=[true]) (hn:g.n<=1000) (w:World) (o:g.ok w):
  Calls Tryz.prog 167 #[.slice g.A g.n g.c] w fun e w'=>e= .returned (qp (z7 g.f g.n))/\Below w.heap.size w w':=by
 obtain⟨ρ0,h0,h13,hm,hsl⟩:=JH o hk hn ⟨fun _=>0,fun _=>0,fun _=>0⟩
 obtain⟨s1,s2⟩:=hsl 1000 rfl
 have key:=jh (P:=Tryz.prog) (cfg:=qb jS Ql 50 12) Tryz.func167 rfl (k:=2) (i:=0) (n:=5) (by decide+kernel) (by kernel_rfl) (args:=XP) (H:=[]) (nx:=0) zg3 zcc zlv zg4 zcd zlw zg5 zch zlx (V:=qp (z7 g.f g.n)) (One g) (WorthI g) (WorthI2 g) (fun ρ=>(g.n-ρ.iv 13).toNat)
  (fun ρ h=>⟨h.std.et,zP _ _⟩) (fun ρ h=>⟨h.one.std.et,zP _ _⟩) (fun ρ ρ' h hs=>h.same hs) (fun ρ ρ' h hs=>h.same hs) (fun ρ h=>h.i) (fun ρ ρ' h hs=>⟨(h.i.same hs).1,h.all⟩) (by kernel_rfl)
  (fun ρ h=>List.forall_mem_cons.2 ⟨zg (z:=ρ.iv 4) rfl (by have:=h.len;show(0:Int)<=ρ.iv 4;omega) (by have:=h.len;have:=h.small;show ρ.iv 4<=1000;omega),fun _ h=>nomatch h⟩)
  (fun ρ h=>by
   have h1:=h.lo
   have h2:=h.hi
   have h3:=h.one.len
   have h4:=h.one.small
   refine List.forall_mem_cons.2 ⟨?_,List.forall_mem_cons.2 ⟨?_,List.forall_mem_cons.2 ⟨?_,fun _ h=>nomatch h⟩⟩⟩
   ·exact zg (z:=ρ.iv 13) rfl h1 (by show ρ.iv 13<=1000;omega)
   ·exact zg (z:=ρ.iv 4) rfl (by show(0:Int)<=ρ.iv 4;omega) (by show ρ.iv 4<=1000;omega)
   ·exact zg (z:=ρ.iv 4) rfl (by show(0:Int)<=ρ.iv 4;omega) (by show ρ.iv 4<=1000;omega))
  (fun ρ h hv=>trivial) (fun ρ h hv=>trivial) (fun ρ h hv=>trivial)
  (by
   refine List.forall_mem_cons.2 ⟨?_,fun _ h=>nomatch h⟩
   intro ρ h _ _
   exact .inr ⟨rfl,rfl,⟨h.std.sub _,h.len,h.small⟩,Int.le_refl _,Int.natCast_nonneg _,fun k hk=>absurd hk (Nat.not_lt_zero k)⟩)
  (by
   refine List.forall_mem_cons.2 ⟨?_,List.forall_mem_cons.2 ⟨?_,List.forall_mem_cons.2 ⟨?_,fun _ h=>nomatch h⟩⟩⟩
   ·intro ρ h _ hp
    obtain⟨c1,c2,_⟩:=Eq.mp (zce ρ) hp
    simp only[Bool.or_eq_true,decide_eq_true_eq]at c1 c2
    refine .inr (.inr ⟨rfl,List.forall_mem_cons.2 ⟨jf _ _,fun _ h=>nomatch h⟩,[.ifc 44 (.int .i64 ⟨.c 1,1,1⟩)],by kernel_rfl,fun b=>?_⟩)
    rw[h.bad (by omega) c2]
    rfl
   ·intro ρ h _ hp
    obtain⟨c1,c2,_⟩:=Eq.mp (zcf ρ) hp
    simp only[Bool.not_eq_true',Bool.or_eq_false_iff,decide_eq_false_iff_not,decide_eq_true_eq]at c1 c2
    refine .inl ⟨rfl,rfl,h.next rfl rfl (by omega) c2,?_⟩
    have h1:=h.hi
    have h3:=h.one.len
    show(g.n-(ρ.iv 13+1)).toNat<(g.n-ρ.iv 13).toNat
    omega
   ·intro ρ h _ hp
    obtain⟨c1,_⟩:=Eq.mp (zcg ρ) hp
    exact .inr (.inl ⟨rfl,rfl,⟨⟨h.one.std.sub _,h.one.len,h.one.small⟩,h.lo,h.hi,h.all⟩,h.done (of_decide_eq_true c1)⟩))
  (by
   refine List.forall_mem_cons.2 ⟨?_,fun _ h=>nomatch h⟩
   intro ρ h _ hp
   refine⟨.inr rfl,(fun r hr=>(by cases hr)),[.nili],by kernel_rfl,fun b=>?_⟩
   rw[kC h.all]
   rfl)
  h0 ⟨fun _=>0,fun _=>0,fun _=>0⟩ w (qU _ _ _ _) ⟨s1,trivial⟩ hm
 have e:SV.denL ρ0 ⟨fun _=>0,fun _=>0,fun _=>0⟩ XP=[.slice g.A g.n g.c]:=by
  unfold XP
  simp only[SV.denL]
  rw[s2]
 rw[e]at key
 exact key
set_option maxRecDepth 100000 in
theorem zco (g:GD) (hk:g.ks=[true]) (hn:g.n<=1000) (w:World) (o:g.ok w):
  Calls Tryz.prog 132 #[.slice g.A g.n g.c] w fun e w'=>e= .returned (.int .i64 (z7 g.f g.n))/\Below w.heap.size w w':=by
 obtain⟨ρ0,h0,h13,hm,hsl⟩:=JH o hk hn ⟨fun _=>0,fun _=>0,fun _=>0⟩
 obtain⟨s1,s2⟩:=hsl 1000 rfl
 have key:=jh (P:=Tryz.prog) (cfg:=qb jS Qm 50 12) Tryz.func132 rfl (k:=2) (i:=0) (n:=5) (by decide+kernel) (by kernel_rfl) (args:=XQ) (H:=[]) (nx:=0) zg6 zci zlz zg7 zcj zlA zg8 zcn zlB (V:= .int .i64 (z7 g.f g.n)) (One g) (WorthI g) (WorthI2 g) (fun ρ=>(g.n-ρ.iv 13).toNat)
  (fun ρ h=>⟨h.std.et,zP _ _⟩) (fun ρ h=>⟨h.one.std.et,zP _ _⟩) (fun ρ ρ' h hs=>h.same hs) (fun ρ ρ' h hs=>h.same hs) (fun ρ h=>h.i) (fun ρ ρ' h hs=>⟨(h.i.same hs).1,h.all⟩) (by kernel_rfl)
  (fun ρ h=>List.forall_mem_cons.2 ⟨zg (z:=ρ.iv 4) rfl (by have:=h.len;show(0:Int)<=ρ.iv 4;omega) (by have:=h.len;have:=h.small;show ρ.iv 4<=1000;omega),fun _ h=>nomatch h⟩)
  (fun ρ h=>by
   have h1:=h.lo
   have h2:=h.hi
   have h3:=h.one.len
   have h4:=h.one.small
   refine List.forall_mem_cons.2 ⟨?_,List.forall_mem_cons.2 ⟨?_,fun _ h=>nomatch h⟩⟩
   ·exact zg (z:=ρ.iv 13) rfl h1 (by show ρ.iv 13<=1000;omega)
   ·exact zg (z:=ρ.iv 4) rfl (by show(0:Int)<=ρ.iv 4;omega) (by show ρ.iv 4<=1000;omega))
  (fun ρ h hv=>trivial) (fun ρ h hv=>trivial) (fun ρ h hv=>trivial)
  (by
   refine List.forall_mem_cons.2 ⟨?_,fun _ h=>nomatch h⟩
   intro ρ h _ _
   exact .inr ⟨rfl,rfl,⟨h.std.sub _,h.len,h.small⟩,Int.le_refl _,Int.natCast_nonneg _,fun k hk=>absurd hk (Nat.not_lt_zero k)⟩)
  (by
   refine List.forall_mem_cons.2 ⟨?_,List.forall_mem_cons.2 ⟨?_,List.forall_mem_cons.2 ⟨?_,fun _ h=>nomatch h⟩⟩⟩
   ·intro ρ h _ hp
    obtain⟨c1,c2,_⟩:=Eq.mp (zck ρ) hp
    simp only[Bool.not_eq_true',Bool.and_eq_false_iff,decide_eq_false_iff_not,decide_eq_true_eq]at c1 c2
    refine .inr (.inr ⟨rfl,List.forall_mem_cons.2 ⟨jf _ _,fun _ h=>nomatch h⟩,[.int .i64 ⟨.c 1,1,1⟩],by kernel_rfl,fun b=>?_⟩)
    rw[h.bad (by omega) c2]
    rfl
   ·intro ρ h _ hp
    obtain⟨c1,c2,_⟩:=Eq.mp (zcl ρ) hp
    simp only[Bool.and_eq_true,decide_eq_true_eq]at c1 c2
    refine .inl ⟨rfl,rfl,h.next rfl rfl (by omega) c2,?_⟩
    have h1:=h.hi
    have h3:=h.one.len
    show(g.n-(ρ.iv 13+1)).toNat<(g.n-ρ.iv 13).toNat
    omega
   ·intro ρ h _ hp
    obtain⟨c1,_⟩:=Eq.mp (zcm ρ) hp
    exact .inr (.inl ⟨rfl,rfl,⟨⟨h.one.std.sub _,h.one.len,h.one.small⟩,h.lo,h.hi,h.all⟩,h.done (of_decide_eq_true c1)⟩))
  (by
   refine List.forall_mem_cons.2 ⟨?_,fun _ h=>nomatch h⟩
   intro ρ h _ hp
   refine⟨.inr rfl,List.forall_mem_cons.2 ⟨jf _ _,fun _ h=>nomatch h⟩,[.int .i64 ⟨.c 0,0,0⟩],by kernel_rfl,fun b=>?_⟩
   rw[kC h.all]
   rfl)
  h0 ⟨fun _=>0,fun _=>0,fun _=>0⟩ w (qU _ _ _ _) ⟨s1,trivial⟩ hm
 have e:SV.denL ρ0 ⟨fun _=>0,fun _=>0,fun _=>0⟩ XQ=[.slice g.A g.n g.c]:=by
  unfold XQ
  simp only[SV.denL]
  rw[s2]
 rw[e]at key
 exact key
end Go.Proofs.YtoakpnoajmngmaaGreatDoor.Sx
