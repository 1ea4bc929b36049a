import Derived.Test.YtoakpnoajmngmaaGreatDoorFrame
import Derived.Deep.Slices
import Derived.Deep.Fields
import Derived.WalkKit
import Derived.Laws.BitsLemmas
import Derived.Laws.DeepBits32
import Derived.Test.YtoakpnoajmngmaaGreatDoorProg
import Derived.WalkSpells
import Derived.WalkLawsBesides
set_option linter.unusedVariables false
set_option linter.unusedSimpArgs false
namespace Go.Proofs.YtoakpnoajmngmaaGreatDoor
open Go.ChangeShapes Go.WideShapes Go.ChangeAt Go.RowKit Go.Deep
section
variable {H:Type} {enc:TypeId × Value->H} {P:Program} {w:World} {base:Nat} {spare:Nat->Bool} {held:Bool}
theorem zeL {n:Int} (h:(Lit.int .i64 n).wf=true):B64 n:=by
 simpa [Lit.wf,IntKind.min,IntKind.max,IntKind.signed,IntKind.bits,B64]using h
theorem KX {t e:TypeId} {v:Value} {d:DataW H} {p:List MemPlace} (k:Nat) (Q:List Value->Prop) (ht:P.underlying t=some (.slice e)) (hk:P.cellsOf e=k) (hk0:0<k)
  (hQ:∀(n:Nat) (cs:List Value) (x:DataW H × List MemPlace),DataW.trod enc P w base spare held n e cs=some x->Q cs)
  {r:Reach} {b0:Nat} (hv:Value.okWide P w r b0 t v) (h:DataW.Trod enc P w base spare held t v d p):
  ∃(A:Option Addr) (n c:Nat),v= .slice A n c/\n<=c/\c<=maxLen/\(n=0\/∃b off,A=some ⟨b,off,none⟩/\b<w.heap.size/\∀i,i<n->∃cs:List Value,cs.length=k/\Q cs/\∀j,j<k->w.cell? ⟨b,off+i*k+j,none⟩=cs[j]?):=by
 obtain⟨A,n,c,rfl⟩:=okWide_slice ht hv
 obtain⟨fuel,hf⟩:=h
 have hcs:(Value.slice A n c).cells.toList=[.slice A n c]:=rfl
 rw[hcs]at hf
 rcases open_slice ht hf with⟨h0,_⟩|⟨a,len,cap,m,n',D,Pl,h0,_,hl,hm,hmm,_,hx⟩
 ·simp at h0
  obtain⟨rfl,rfl,rfl⟩:=h0
  exact⟨none,0,0,rfl,Nat.le_refl _,Nat.zero_le _,.inl rfl⟩
 ·simp at h0
  obtain⟨rfl,rfl,rfl⟩:=h0
  refine⟨some a,n,c,rfl,hl,hm,?_⟩
  by_cases hn:n=0
  ·exact .inl hn
  ·right
   have hle:n<=m:=by rw[hmm];split<;>omega
   rw[hk]at hx
   have hcell:∀i,i<n->∃cs:List Value,cs.length=k/\Q cs/\∀j,j<k->w.cell? ((a.add (i*k)).add j)=cs[j]? :=by
    intro i hi
    obtain⟨cs,hc,htr⟩:=hx i (by omega)
    obtain⟨_,hlen,hcc⟩:=World.cells?_some hc
    exact⟨cs,hlen,hQ _ _ _ htr,hcc⟩
   obtain⟨b,off,spot⟩:=a
   obtain⟨cs,hlen,_,hcc⟩:=hcell 0 (by omega)
   have h1:=hcc 0 hk0
   have hs:cs[0]? =some (cs[0]'(by omega)):=List.getElem?_eq_getElem (by omega)
   rw[hs]at h1
   have hspot:spot=none:=by simpa [Addr.add]using World.cell?_spot h1
   subst hspot
   have hlt:b<w.heap.size:=by
    rcases Nat.lt_or_ge b w.heap.size with h2|h2
    ·exact h2
    ·simp[Addr.add,World.cell?,Array.getElem?_eq_none h2]at h1
   refine⟨b,off,rfl,hlt,fun i hi=>?_⟩
   obtain⟨cs,h2,h3,h4⟩:=hcell i hi
   refine⟨cs,h2,h3,fun j hj=>?_⟩
   have h5:=h4 j hj
   rwa[add_plain,add_plain]at h5
end
end Go.Proofs.YtoakpnoajmngmaaGreatDoor
namespace Go.Proofs.YtoakpnoajmngmaaGreatDoor
open Go.RowKit
def gz:Nat->Nat->Nat
 |0,_=>0
 |n+1,x=>x%2+gz n (x/2)
theorem Wn (n:Nat):gz n 0=0:=by
 induction n with
 |zero=>rfl
 |succ n ih=>simp[gz,ih]
theorem Wo (n:Nat):∀x,gz n x<=n:=by
 induction n with
 |zero=>intro x;exact Nat.le_refl _
 |succ n ih=>intro x;have:=ih (x/2);simp only[gz];omega
theorem Jl (k:Nat):(2*k+1) &&& (2*k)=2*k:=by
 apply Nat.eq_of_testBit_eq
 intro i
 rw[Nat.testBit_and]
 cases i with
 |zero=>simp[Nat.testBit_zero]
 |succ i=>simp[Nat.testBit_succ,show(2*k+1)/2=k by omega]
theorem ZO (k:Nat) (h:0<k):(2*k) &&& (2*k-1)=2*(k &&& (k-1)):=by
 apply Nat.eq_of_testBit_eq
 intro i
 rw[Nat.testBit_and]
 cases i with
 |zero=>simp[Nat.testBit_zero]
 |succ i=>simp[Nat.testBit_succ,show(2*k-1)/2=k-1 by omega,Nat.testBit_and]
theorem KY (n:Nat):∀x,0<x->x<2^n->gz n (x &&& (x-1))+1=gz n x:=by
 induction n with
 |zero=>intro x h1 h2;simp at h2;omega
 |succ n ih=>
  intro x h1 h2
  rcases Nat.mod_two_eq_zero_or_one x with h|h
  ·obtain⟨k,rfl⟩:∃k,x=2*k:=⟨x/2,by omega⟩
   rw[ZO k (by omega)]
   have:=ih k (by omega) (by rw[Nat.pow_succ]at h2;omega)
   simp only[gz]
   rw[show 2*(k &&& (k-1))%2=0 by omega,show 2*(k &&& (k-1))/2=k &&& (k-1)by omega,show 2*k%2=0 by omega,show 2*k/2=k by omega]
   omega
  ·obtain⟨k,rfl⟩:∃k,x=2*k+1:=⟨x/2,by omega⟩
   rw[show 2*k+1-1=2*k by omega,Jl]
   simp only[gz]
   rw[show 2*k%2=0 by omega,show 2*k/2=k by omega,show(2*k+1)%2=1 by omega,show(2*k+1)/2=k by omega]
   omega
theorem and_le_left (a b:Nat):a &&& b<=a:=Nat.and_le_left
theorem Wp (n:Nat):∀x,gz (n+1) x=gz n x+x/2^n%2:=by
 induction n with
 |zero=>intro x;simp[gz]
 |succ n ih=>
  intro x
  rw[gz,ih,gz]
  rw[Nat.div_div_eq_div_mul,show 2*2^n=2^(n+1)by rw[Nat.pow_succ];omega]
  omega
def qV (x:Nat):Nat:=x/2^0%2*128+x/2^1%2*64+x/2^2%2*32+x/2^3%2*16+x/2^4%2*8+x/2^5%2*4+x/2^6%2*2+x/2^7%2*1
theorem yL (x:Nat):qV x<256:=by
 unfold qV
 have h0:=Nat.mod_lt (x/2^0) (y:=2) (by omega)
 have h1:=Nat.mod_lt (x/2^1) (y:=2) (by omega)
 have h2:=Nat.mod_lt (x/2^2) (y:=2) (by omega)
 have h3:=Nat.mod_lt (x/2^3) (y:=2) (by omega)
 have h4:=Nat.mod_lt (x/2^4) (y:=2) (by omega)
 have h5:=Nat.mod_lt (x/2^5) (y:=2) (by omega)
 have h6:=Nat.mod_lt (x/2^6) (y:=2) (by omega)
 have h7:=Nat.mod_lt (x/2^7) (y:=2) (by omega)
 omega
def rev (x:Nat):Nat->Nat
 |0=>0
 |k+1=>2*rev x k+x/2^k%2
theorem Wq (x:Nat):∀k,rev x k<2^k
 |0=>by simp[rev]
 |k+1=>by have:=Wq x k;simp only[rev,Nat.pow_succ];omega
theorem zpx (x:Nat):rev x 8=qV x:=by
 simp only[rev,qV]
 generalize x/2^0%2=b0
 generalize x/2^1%2=b1
 generalize x/2^2%2=b2
 generalize x/2^3%2=b3
 generalize x/2^4%2=b4
 generalize x/2^5%2=b5
 generalize x/2^6%2=b6
 generalize x/2^7%2=b7
 omega
theorem Wr (op:BinOp) (f:Nat->Nat->Nat) (a b:Nat) (ha:a<4294967296) (hb:b<4294967296) (hf:f a b<4294967296)
  (h:∀x y:BitVec 32,(match op with| .and=>x &&& y| .or=>x ||| y| .xor=>x ^^^ y|_=>x &&& ~~~y).toNat=f x.toNat y.toNat):bits op .u32 (a:Int) (b:Int)=((f a b:Nat):Int):=by
 have h1:(BitVec.ofInt 32 (a:Int)).toNat=a:=by rw[BitVec.ofInt_natCast,BitVec.toNat_ofNat];exact Nat.mod_eq_of_lt ha
 have h2:(BitVec.ofInt 32 (b:Int)).toNat=b:=by rw[BitVec.ofInt_natCast,BitVec.toNat_ofNat];exact Nat.mod_eq_of_lt hb
 have h3:=h (BitVec.ofInt 32 (a:Int)) (BitVec.ofInt 32 (b:Int))
 rw[h1,h2]at h3
 show IntKind.u32.wrap (_:Nat)=_
 rw[IntKind.wrap_u32]
 have:∀n:Nat,n=f a b->((n:Nat):Int)%4294967296=(f a b:Nat):=by intro n hn;subst hn;omega
 exact this _ h3
theorem Ws (a b:Nat) (ha:a<4294967296) (hb:b<4294967296):bits .and .u32 (a:Int) (b:Int)=((a &&& b:Nat):Int):=
 Wr .and (· &&& ·) a b ha hb (Nat.lt_of_le_of_lt Nat.and_le_left ha) (fun x y=>BitVec.toNat_and x y)
theorem Jn (a b:Nat) (ha:a<4294967296) (hb:b<4294967296):bits .or .u32 (a:Int) (b:Int)=((a ||| b:Nat):Int):=
 Wr .or (· ||| ·) a b ha hb (Nat.or_lt_two_pow (n:=32) ha hb) (fun x y=>BitVec.toNat_or x y)
theorem vY (a m:Nat) (ha:a<4294967296) (hm:m<=31):bits .and .u32 (a:Int) ((2^m-1:Nat):Int)=((a%2^m:Nat):Int):=by
 have:2^m<=2^31:=Nat.pow_le_pow_right (by omega) hm
 rw[Ws a (2^m-1) ha (by omega),Nat.and_two_pow_sub_one_eq_mod]
theorem zfR (a:Nat) (ha:a<4294967296):bits .and .u32 (a:Int) 1=((a%2:Nat):Int):=vY a 1 ha (by omega)
theorem zbt (R X:Nat) (hR:R<128) (hX:X<4294967296):bits .or .u32 (IntKind.u32.wrap ((R:Int)*2)) (bits .and .u32 (X:Int) 1)=((2*R+X%2:Nat):Int):=by
 rw[zfR X hX,IntKind.wrap_u32,show(R:Int)*2%4294967296=((2*R:Nat):Int)by omega,Jn _ _ (by omega) (by omega),or_bit (2*R) (X%2) (by omega) (by omega)]
theorem ziP (x i:Nat):((x:Int)/2^i%2)=((x/2^i%2:Nat):Int):=by
 rw[Int.natCast_emod,Int.natCast_ediv,Int.natCast_pow];rfl
theorem qW (n:Int) (h0:0<=n) (h1:n<2^32):IntKind.i64.wrap n=n:=by rw[IntKind.wrap_i64];omega
theorem zfS (x:Int) (h0:0<=x) (h1:x<4294967296):bits .and .i64 x 1=x%2:=bits_mask .i64 32 (by decide) qW 1 (by decide) x h0 h1
theorem KZ (x:Int) (i:Nat) (h0:0<=x):0<=x/2^i/\x/2^i<=x:=
 ⟨Int.ediv_nonneg h0 (Int.le_of_lt (Int.pow_pos (by omega))),Int.ediv_le_self _ h0⟩
def mY (x:Nat):Bool:=gz 32 x%2==1
def la (l:Nat):Nat->Nat
 |0=>0
 |k+1=>la l k+l/2^(7-k)%2*2^k
theorem zfT (l:Nat):∀k,la l k<2^k
 |0=>by simp[la]
 |k+1=>by
  have:=zfT l k
  have h2:=Nat.mod_lt (l/2^(7-k)) (y:=2) (by omega)
  have h3:l/2^(7-k)%2*2^k<=1*2^k:=Nat.mul_le_mul_right _ (by omega)
  simp only[la,Nat.pow_succ];omega
theorem la8 (l:Nat):la l 8=qV l:=by
 simp only[la,qV]
 simp only[show 7-0=7 by omega,show 7-1=6 by omega,show 7-2=5 by omega,show 7-3=4 by omega,show 7-4=3 by omega,show 7-5=2 by omega,show 7-6=1 by omega,show 7-7=0 by omega]
 generalize l/2^0%2=b0
 generalize l/2^1%2=b1
 generalize l/2^2%2=b2
 generalize l/2^3%2=b3
 generalize l/2^4%2=b4
 generalize l/2^5%2=b5
 generalize l/2^6%2=b6
 generalize l/2^7%2=b7
 omega
theorem yh (k:Nat):(2:Int)^k=((2^k:Nat):Int):=by simp
theorem Wt (A l k:Nat) (hk:k<8) (hA:A<2^k):(((A:Int)+(l:Int)/2^(7-k)%2*2^k%4294967296)%4294967296)=((A+l/2^(7-k)%2*2^k:Nat):Int):=by
 rw[ziP,yh]
 have h1:2^k<=2^7:=Nat.pow_le_pow_right (by omega) (by omega)
 generalize 2^k=p at*
 rcases Nat.mod_two_eq_zero_or_one (l/2^(7-k))with e|e<;>rw[e]<;>omega
theorem Y9 (s k:Nat):s%2^(k+1)=s%2^k+2^k*(s/2^k%2):=by rw[Nat.mod_pow_succ]
end Go.Proofs.YtoakpnoajmngmaaGreatDoor
namespace Go.Proofs.YtoakpnoajmngmaaGreatDoor
open Go.RowKit
def zm (x lo hi:Int):Int:=if x<lo\/hi<lo then lo else if hi<x then hi else x
def pof (x:Int):Int:=if x< -2147483647 then -2147483647 else if 2147483647<x then 2147483647 else x
theorem ziQ (x:Int):zm x (-2147483647) 2147483647=pof x:=by
 unfold zm pof
 repeat' split
 all_goals omega
theorem Wu (x:Int): -2147483647<=pof x:=by unfold pof;split<;>(try split)<;>omega
theorem Wv (x:Int):pof x<=2147483647:=by unfold pof;split<;>(try split)<;>omega
theorem wD (x lo hi:Int) (h:lo<=hi):min (max x lo) hi=zm x lo hi:=by
 unfold zm;(repeat' split)<;>omega
theorem Xa (x lo hi:Int) (h:lo<=hi):lo<=zm x lo hi:=by unfold zm;(repeat' split)<;>omega
theorem Xb (x lo hi:Int) (h:lo<=hi):zm x lo hi<=hi:=by unfold zm;(repeat' split)<;>omega
theorem Xc (x lo hi:Int) (h1:lo<=x) (h2:x<=hi):zm x lo hi=x:=by unfold zm;(repeat' split)<;>omega
def wE (n d:Int):Int:=if n<0 then -((2*(-n)+d)/(2*d))else(2*n+d)/(2*d)
def ziy (a b:Int):Int:=pof (wE (pof a*pof b) 256)
theorem j5 {a b A B:Int} (hA:0<=A) (hB:0<=B) (h1: -A<=a) (h2:a<=A) (h3: -B<=b) (h4:b<=B): -(A*B)<=a*b/\a*b<=A*B:=by
 have e1:a*b<=A*B:=by
  rcases Int.le_total 0 a with ha|ha
  ·rcases Int.le_total 0 b with hb|hb
   ·exact Int.mul_le_mul h2 h4 hb hA
   ·have:=Int.mul_nonneg ha (by omega:0<= -b)
    rw[Int.mul_neg]at this
    have:=Int.mul_nonneg hA hB
    omega
  ·rcases Int.le_total 0 b with hb|hb
   ·have:=Int.mul_nonneg (by omega:0<= -a) hb
    rw[Int.neg_mul]at this
    have:=Int.mul_nonneg hA hB
    omega
   ·have:=Int.mul_le_mul (by omega: -a<=A) (by omega: -b<=B) (by omega) hA
    rw[Int.neg_mul_neg]at this
    exact this
 have e2:(-a)*b<=A*B:=by
  rcases Int.le_total 0 (-a)with ha|ha
  ·rcases Int.le_total 0 b with hb|hb
   ·exact Int.mul_le_mul (by omega) h4 hb hA
   ·have:=Int.mul_nonneg ha (by omega:0<= -b)
    rw[Int.mul_neg]at this
    have:=Int.mul_nonneg hA hB
    omega
  ·rcases Int.le_total 0 b with hb|hb
   ·have:=Int.mul_nonneg (by omega:0<=a) hb
    rw[Int.neg_mul]
    have:=Int.mul_nonneg hA hB
    omega
   ·have:=Int.mul_le_mul (by omega:a<=A) (by omega: -b<=B) (by omega) hA
    rw[Int.neg_mul]
    rw[Int.mul_neg]at this
    exact this
 rw[Int.neg_mul]at e2
 exact⟨by omega,e1⟩
theorem Ww (a b:Int): -4611686014132420609<=pof a*pof b/\pof a*pof b<=4611686014132420609:=by
 have:=j5 (A:=2147483647) (B:=2147483647) (by omega) (by omega) (Wu a) (Wv a) (Wu b) (Wv b)
 omega
theorem zbu (n d:Int) (B:Int) (hd:0<d) (h1: -B<=n) (h2:n<=B) (hB:0<=B): -(B+1)<=wE n d/\wE n d<=B+1:=by
 have key:∀m:Int,0<=m->m<=B->0<=(2*m+d)/(2*d)/\(2*m+d)/(2*d)<=B+1:=by
  intro m h0 hm
  refine⟨Int.ediv_nonneg (by omega) (by omega),?_⟩
  have:(2*m+d)/(2*d)<=(B+1):=by
   apply Int.ediv_le_of_le_mul (by omega)
   have e:(B+1)*(2*d)=2*(B*d)+2*d:=by rw[Int.add_mul,Int.mul_left_comm];omega
   have:B*1<=B*d:=Int.mul_le_mul_of_nonneg_left (by omega) hB
   omega
  exact this
 unfold wE
 split
 ·have:=key (-n) (by omega) (by omega);omega
 ·have:=key n (by omega) (by omega);omega
theorem Xd (x n:Int) (hn:0<n) (h:x<0):(x.tmod n<0/\x%n=x.tmod n+n/\ -n<x.tmod n)\/(x.tmod n=0/\x%n=0):=by
 have h1:=Int.emod_nonneg x (b:=n) (by omega)
 have h2:=Int.emod_lt_of_pos x hn
 have e1:=Int.tmod_eq_emod (a:=x) (b:=n)
 rcases Classical.em (n∣x)with hc|hc
 ·exact .inr ⟨Int.tmod_eq_zero_of_dvd hc,Int.emod_eq_zero_of_dvd hc⟩
 ·rw[if_neg (fun h3=>h3.elim (fun h4=>absurd h4 (by omega)) hc)]at e1
  have h4:x%n≠0:=fun h5=>hc (Int.dvd_of_emod_eq_zero h5)
  exact .inl ⟨by omega,by omega,by omega⟩
theorem zD {k:IntKind} {a b:Int} (h:a=b):Ending.returned (.int k a)= .returned (.int k b):=by rw[h]
theorem jY {a b:Bool} (h:a=b):Ending.returned (.bool a)= .returned (.bool b):=by rw[h]
end Go.Proofs.YtoakpnoajmngmaaGreatDoor
namespace Go.Proofs.YtoakpnoajmngmaaGreatDoor
open Go.RowKit
def gD (travel rate slack confirm:Int):Prop:=1<=travel/\travel<=1000/\1<=rate/\rate<=travel/\0<=slack/\slack<=travel/\1<=confirm/\confirm<=10
def z8 (travel rate slack confirm:Int):Int:=if 1<=travel/\travel<=1000/\1<=rate/\rate<=travel/\0<=slack/\slack<=travel/\1<=confirm/\confirm<=10 then 0 else 1
theorem Zc {travel rate slack confirm:Int} (h:z8 travel rate slack confirm=0):gD travel rate slack confirm:=by
 unfold z8 at h
 split at h
 ·assumption
 ·omega
theorem jQ {travel rate slack confirm:Int} (h:gD travel rate slack confirm):z8 travel rate slack confirm=0:=if_pos h
theorem gE {travel rate slack confirm:Int} (h:¬gD travel rate slack confirm):z8 travel rate slack confirm=1:=if_neg h
def ziR (travel confirm is bad:Int) (out:Bool):Prop:= -travel<=is/\is<=travel/\0<=bad/\bad<=confirm/\(out=true->is=0)/\(out=false->bad≠confirm)
def zj (travel rate slack confirm is bad:Int) (out:Bool):Int:=
 if z8 travel rate slack confirm=0 then(if -travel<=is/\is<=travel/\0<=bad/\bad<=confirm/\(out=true->is=0)/\(out=false->bad≠confirm)then 0 else 3)else 1
theorem zU {travel rate slack confirm is bad:Int} {out:Bool} (h:zj travel rate slack confirm is bad out=0):gD travel rate slack confirm/\ziR travel confirm is bad out:=by
 unfold zj at h
 split at h
 ·rename_i h1
  split at h
  ·exact⟨Zc h1,by assumption⟩
  ·omega
 ·omega
theorem Wx {travel rate slack confirm is bad:Int} {out:Bool} (h1:gD travel rate slack confirm) (h2:ziR travel confirm is bad out):zj travel rate slack confirm is bad out=0:=by
 unfold zj
 rw[if_pos (jQ h1)]
 exact if_pos h2
theorem Xe {travel rate slack confirm is bad:Int} {out:Bool} (h1:¬gD travel rate slack confirm):zj travel rate slack confirm is bad out=1:=by
 unfold zj
 rw[if_neg (by rw[gE h1];omega)]
def Xf (travel rate is:Int):Int:=max (is-rate) (-travel)
def Xg (travel rate is:Int):Int:=min (is+rate) travel
end Go.Proofs.YtoakpnoajmngmaaGreatDoor
namespace Go.Proofs.YtoakpnoajmngmaaGreatDoor
open Go.RowKit
theorem zbv (k:Int):∃t,k*(k+1)=2*t:=by
 rcases Int.emod_two_eq k with h|h
 ·obtain⟨m,hm⟩:∃m,k=2*m:=⟨k/2,by omega⟩
  exact⟨m*(k+1),by rw[<-Int.mul_assoc,<-hm]⟩
 ·obtain⟨m,hm⟩:∃m,k+1=2*m:=⟨(k+1)/2,by omega⟩
  exact⟨k*m,by rw[hm,Int.mul_left_comm]⟩
def zE (push rate s:Int):Int:=if s+push<=0 then 0 else((s+push)/rate+1)*(s+push)-rate*((s+push)/rate)*((s+push)/rate+1)/2
theorem qM {push rate s:Int} (h:s+push<=0):zE push rate s=0:=if_pos h
theorem Xh (r k t:Int) (h:k*(k+1)=2*t):r*k*(k+1)/2=r*t:=by
 rw[Int.mul_assoc,h,Int.mul_left_comm]
 exact Int.mul_ediv_cancel_left _ (by omega)
theorem xA {push rate s:Int} (hr:1<=rate) (h:0<s+push):zE push rate s=(s+push)+zE push rate (s-rate):=by
 obtain⟨a,ha⟩:∃a,a=s+push:=⟨_,rfl⟩
 have e2:s-rate+push=a-rate:=by omega
 unfold zE
 rw[e2,<-ha]
 rw[<-ha]at h
 rw[if_neg (by omega)]
 have hk0:0<=a/rate:=Int.ediv_nonneg (by omega) (by omega)
 have hdm:=Int.emod_add_mul_ediv a rate
 have hm0:=Int.emod_nonneg a (b:=rate) (by omega)
 have hm1:=Int.emod_lt_of_pos a (b:=rate) (by omega)
 by_cases h2:a-rate<=0
 ·rw[if_pos h2]
  by_cases h3:a=rate
  ·have e:a/rate=1:=by rw[h3];exact Int.ediv_self (by omega)
   rw[e,h3]
   omega
  ·have e:a/rate=0:=Int.ediv_eq_zero_of_lt (by omega) (by omega)
   rw[e]
   simp
 ·rw[if_neg h2]
  have e:(a-rate)/rate=a/rate-1:=by
   have:=Int.add_mul_ediv_right a (-1) (c:=rate) (by omega)
   rw[Int.neg_one_mul]at this
   rw[Int.sub_eq_add_neg,this]
   omega
  rw[e]
  generalize a/rate=k at*
  obtain⟨t,ht⟩:=zbv k
  have ht':(k-1)*(k-1+1)=2*(t-k):=by
   have:(k-1)*(k-1+1)=k*(k+1)-2*k:=by
    rw[Int.sub_add_cancel,Int.sub_mul,Int.mul_add];omega
   omega
  rw[Xh rate k t ht,Xh rate (k-1) (t-k) ht',Int.sub_add_cancel,Int.mul_sub,Int.mul_sub,Int.add_mul,Int.mul_comm k rate]
  omega
theorem xP (push rate:Int) (hr:1<=rate) (n:Nat):∀s t:Int,(t+push).toNat<=n->s<=t->0<=zE push rate s/\zE push rate s<=zE push rate t:=by
 induction n with
 |zero=>
  intro s t hn hst
  rw[qM (by omega:s+push<=0),qM (by omega:t+push<=0)]
  omega
 |succ n ih=>
  intro s t hn hst
  by_cases ht:t+push<=0
  ·rw[qM (by omega:s+push<=0),qM ht]
   omega
  ·have h1:=ih (t-rate) (t-rate) (by omega) (by omega)
   rw[xA hr (by omega:0<t+push)]
   by_cases hs:s+push<=0
   ·rw[qM hs];omega
   ·have h2:=ih (s-rate) (t-rate) (by omega) (by omega)
    rw[xA hr (by omega:0<s+push)]
    omega
theorem jH {push rate:Int} (hr:1<=rate) (s:Int):0<=zE push rate s:=(xP push rate hr _ s s (Nat.le_refl _) (by omega)).1
theorem kK {push rate:Int} (hr:1<=rate) {s t:Int} (h:s<=t):zE push rate s<=zE push rate t:=(xP push rate hr _ s t (Nat.le_refl _) h).2
theorem vA {push rate s:Int} (hr:1<=rate) (hr2:rate<=4000) (h0:0<s+push) (h1:s+push<=6000):
  0<=(s+push)/rate/\(s+push)/rate<=6000/\0<=((s+push)/rate+1)*(s+push)/\((s+push)/rate+1)*(s+push)<=36006000/\0<=rate*((s+push)/rate)/\rate*((s+push)/rate)<=6000/\
   0<=rate*((s+push)/rate)*((s+push)/rate+1)/\rate*((s+push)/rate)*((s+push)/rate+1)<=36006000:=by
 generalize s+push=a at*
 have hk0:0<=a/rate:=Int.ediv_nonneg (by omega) (by omega)
 have hk1:a/rate<=a:=Int.ediv_le_self _ (by omega)
 have hdm:=Int.emod_add_mul_ediv a rate
 have hm0:=Int.emod_nonneg a (b:=rate) (by omega)
 generalize a/rate=k at*
 have p1:=j5 (A:=6001) (B:=6000) (by omega) (by omega) (by omega: -6001<=k+1) (by omega) (by omega: -6000<=a) h1
 have p2:=Int.mul_nonneg (by omega:0<=k+1) (by omega:0<=a)
 have p3:=Int.mul_nonneg (by omega:0<=rate) hk0
 have p4:=j5 (a:=rate*k) (A:=6000) (B:=6001) (by omega) (by omega) (by omega) (by omega) (by omega: -6001<=k+1) (by omega)
 have p5:=Int.mul_nonneg p3 (by omega:0<=k+1)
 omega
theorem wF {push rate s:Int} (hr:1<=rate) (hr2:rate<=4000) (h1:s+push<=6000):zE push rate s<=36006000:=by
 by_cases h0:s+push<=0
 ·rw[qM h0];omega
 ·have:=vA hr hr2 (by omega:0<s+push) h1
  unfold zE
  rw[if_neg h0]
  omega
def zs (lo hi noise push most rate:Int):Int:=
 if ¬(-100000<=lo/\lo<=100000/\ -100000<=hi/\hi<=100000/\0<=noise/\noise<=1000/\0<=push/\push<=2000/\1<=most/\most<=4000/\1<=rate/\rate<=most)then 1
 else if most<push\/rate<push\/hi-lo<2*(noise+zE push rate most)then 3 else 0
end Go.Proofs.YtoakpnoajmngmaaGreatDoor
namespace Go.Proofs.YtoakpnoajmngmaaGreatDoor
open Go.RowKit
def wG (push rate room lo:Int):Nat->Int
 |0=>lo
 |n+1=>if zE push rate (lo+(n+1:Nat))<=room then lo+(n+1:Nat)else wG push rate room lo n
def kk (push rate lo hi room:Int):Int:=wG push rate room lo (hi-lo).toNat
def Jo (push rate lo hi room s:Int):Prop:=lo<=s/\s<=hi/\(s=lo\/zE push rate s<=room)/\(s=hi\/room<zE push rate (s+1))
theorem Wy (push rate room lo:Int) (n:Nat):Jo push rate lo (lo+n) room (wG push rate room lo n):=by
 induction n with
 |zero=>exact⟨by simp[wG],by simp[wG],.inl rfl,.inl (by simp[wG])⟩
 |succ n ih=>
  unfold wG
  obtain⟨h1,h2,h3,h4⟩:=ih
  split
  ·rename_i h
   exact⟨by omega,by omega,.inr h,.inl rfl⟩
  ·rename_i h
   refine⟨h1,by omega,h3,.inr ?_⟩
   rcases h4 with h4|h4
   ·rw[h4]
    have e:lo+(n:Int)+1=lo+((n+1:Nat):Int):=by omega
    rw[e];omega
   ·exact h4
theorem ZP {push rate lo hi room:Int} (h:lo<=hi):Jo push rate lo hi room (kk push rate lo hi room):=by
 have:=Wy push rate room lo (hi-lo).toNat
 have e:lo+((hi-lo).toNat:Int)=hi:=by omega
 rw[e]at this
 exact this
theorem K0 {push rate lo hi room s t:Int} (hr:1<=rate) (hs:Jo push rate lo hi room s) (ht:Jo push rate lo hi room t):s=t:=by
 obtain⟨a1,a2,a3,a4⟩:=hs
 obtain⟨b1,b2,b3,b4⟩:=ht
 rcases Int.lt_trichotomy s t with h|h|h
 ·exfalso
  have hm:=kK (push:=push) hr (by omega:s+1<=t)
  rcases a4 with a4|a4
  ·omega
  ·rcases b3 with b3|b3<;>omega
 ·exact h
 ·exfalso
  have hm:=kK (push:=push) hr (by omega:t+1<=s)
  rcases b4 with b4|b4
  ·omega
  ·rcases a3 with a3|a3<;>omega
theorem Xi {push rate lo hi room s:Int} (hr:1<=rate) (h:lo<=hi) (hs:Jo push rate lo hi room s):kk push rate lo hi room=s:=K0 hr (ZP h) hs
theorem vZ {push rate lo hi room:Int} (h:lo<=hi):lo<=kk push rate lo hi room:=(ZP h).1
theorem Xj {push rate lo hi room:Int} (h:lo<=hi):kk push rate lo hi room<=hi:=(ZP h).2.1
theorem gG {push rate lo hi room:Int} (hr:1<=rate) (h:lo<=hi) (hm:zE push rate hi<=room):kk push rate lo hi room=hi:=
 Xi hr h ⟨h,Int.le_refl _,.inr hm,.inl rfl⟩
theorem G8 {push rate lo hi room:Int} (h:lo<hi) (hb:room<zE push rate hi):kk push rate lo hi room=kk push rate lo (hi-1) room:=by
 unfold kk
 have e:(hi-lo).toNat=(hi-1-lo).toNat+1:=by omega
 rw[e]
 show(if _ then _ else _)=_
 have e2:lo+(((hi-1-lo).toNat+1:Nat):Int)=hi:=by omega
 rw[e2,if_neg (by omega)]
theorem Wz {push rate lo room:Int}:kk push rate lo lo room=lo:=by
 unfold kk
 have e:(lo-lo).toNat=0:=by omega
 rw[e];rfl
def Zd (most rate prev:Int):Int:=max (-most) (prev-rate)
def Ze (most rate prev:Int):Int:=min most (prev+rate)
theorem ZQ {most rate prev:Int} (h1:1<=most) (h2:1<=rate) (h3: -most<=prev) (h4:prev<=most):Zd most rate prev<=Ze most rate prev:=by
 unfold Zd Ze;omega
def pup (lo hi noise push most rate x prev:Int):Int:=kk push rate (Zd most rate prev) (Ze most rate prev) (hi-noise-zm x (-2000000) 2000000)
def pdn (lo hi noise push most rate x prev:Int):Int:= -(kk push rate (-(Ze most rate prev)) (-(Zd most rate prev)) (zm x (-2000000) 2000000-noise-lo))
theorem G9 {lo hi noise push most rate x prev:Int} (hr:1<=rate) (h1:1<=most) (h3: -most<=prev) (h4:prev<=most) (hw:2*(noise+zE push rate most)<=hi-lo):
  pdn lo hi noise push most rate x prev<=pup lo hi noise push most rate x prev:=by
 have hc:=ZQ h1 hr h3 h4
 have g1: -most<=Zd most rate prev:=by unfold Zd;omega
 have g2:Ze most rate prev<=most:=by unfold Ze;omega
 unfold pdn pup
 generalize Zd most rate prev=a at*
 generalize Ze most rate prev=b at*
 generalize zm x (-2000000) 2000000=y at*
 by_cases h:zE push rate most<=hi-noise-y
 ·have hm:=kK (push:=push) hr g2
  rw[gG hr hc (by omega)]
  have:=vZ (push:=push) (rate:=rate) (lo:= -b) (hi:= -a) (room:=y-noise-lo) (by omega)
  omega
 ·have hm:=kK (push:=push) hr (by omega: -a<=most)
  rw[gG (lo:= -b) (hi:= -a) hr (by omega) (by omega)]
  have:=vZ (push:=push) (rate:=rate) (lo:=a) (hi:=b) (room:=hi-noise-y) hc
  omega
theorem gH {lo hi noise push most rate x prev:Int} (hr:1<=rate) (h1:1<=most) (h3: -most<=prev) (h4:prev<=most):
  Zd most rate prev<=pdn lo hi noise push most rate x prev/\pdn lo hi noise push most rate x prev<=Ze most rate prev/\Zd most rate prev<=pup lo hi noise push most rate x prev/\pup lo hi noise push most rate x prev<=Ze most rate prev:=by
 have hc:=ZQ h1 hr h3 h4
 unfold pdn pup
 generalize Zd most rate prev=a at*
 generalize Ze most rate prev=b at*
 have k1:=vZ (push:=push) (rate:=rate) (lo:= -b) (hi:= -a) (room:=zm x (-2000000) 2000000-noise-lo) (by omega)
 have k2:=Xj (push:=push) (rate:=rate) (lo:= -b) (hi:= -a) (room:=zm x (-2000000) 2000000-noise-lo) (by omega)
 have k3:=vZ (push:=push) (rate:=rate) (lo:=a) (hi:=b) (room:=hi-noise-zm x (-2000000) 2000000) hc
 have k4:=Xj (push:=push) (rate:=rate) (lo:=a) (hi:=b) (room:=hi-noise-zm x (-2000000) 2000000) hc
 omega
end Go.Proofs.YtoakpnoajmngmaaGreatDoor
namespace Go.Proofs.YtoakpnoajmngmaaGreatDoor
open Go.RowKit
def zeM (a b c:Int):Int:=max (min a b) (min (max a b) c)
def xQ (h0 h1 h2:Bool) (x0 x1 x2 last:Int):Int:=
 match h0,h1,h2 with
 |false,false,false=>last
 |true,false,false=>x0
 |false,true,false=>x1
 |false,false,true=>x2
 |true,true,false=>(x0+x1)/2
 |true,false,true=>(x0+x2)/2
 |false,true,true=>(x1+x2)/2
 |true,true,true=>zeM x0 x1 x2
def WA (h0 h1 h2:Bool):Int:=
 match h0,h1,h2 with
 |false,false,false=>0
 |true,false,false=>1
 |false,true,false=>1
 |false,false,true=>1
 |true,true,false=>2
 |true,false,true=>2
 |false,true,true=>2
 |true,true,true=>3
def wH (there:Bool) (x v limit:Int):Bool:=there&&(decide (v-limit<=x)&&decide (x<=v+limit))
def ziz (there out:Bool) (x v limit bad:Int):Int:=if out then bad else if wH there x v limit then 0 else min (bad+1) 10
def ziS (there out:Bool) (x v limit confirm bad:Int):Bool:=if out then true else if wH there x v limit then false else decide (confirm<=min (bad+1) 10)
theorem zfU (a b c L:Int) (h1: -L<=a) (h2:a<=L) (h3: -L<=b) (h4:b<=L) (h5: -L<=c) (h6:c<=L): -L<=zeM a b c/\zeM a b c<=L:=by
 unfold zeM;omega
theorem WB (h0 h1 h2:Bool) (x0 x1 x2 last L:Int) (l1: -L<=last) (l2:last<=L) (a:h0=true-> -L<=x0/\x0<=L) (b:h1=true-> -L<=x1/\x1<=L) (c:h2=true-> -L<=x2/\x2<=L):
  -L<=xQ h0 h1 h2 x0 x1 x2 last/\xQ h0 h1 h2 x0 x1 x2 last<=L:=by
 cases h0<;>cases h1<;>cases h2<;>simp only[xQ]
 ·exact⟨l1,l2⟩
 ·exact c rfl
 ·exact b rfl
 ·have:=b rfl;have:=c rfl;omega
 ·exact a rfl
 ·have:=a rfl;have:=c rfl;omega
 ·have:=a rfl;have:=b rfl;omega
 ·exact zfU _ _ _ _ (a rfl).1 (a rfl).2 (b rfl).1 (b rfl).2 (c rfl).1 (c rfl).2
theorem zbw (a b c:Int) (a1: -2147483647<=a) (a2:a<=2147483647) (b1: -2147483647<=b) (b2:b<=2147483647) (c1: -2147483647<=c) (c2:c<=2147483647):
  a+b+c-min (min (min 2147483647 a) b) c-max (max (max (-2147483647) a) b) c=zeM a b c:=by
 unfold zeM;omega
theorem Vb {x v limit:Int} (h1:v-limit<=x) (h2:x<=v+limit):wH true x v limit=true:=by
 unfold wH;simp[h1,h2]
end Go.Proofs.YtoakpnoajmngmaaGreatDoor
namespace Go.Proofs.YtoakpnoajmngmaaGreatDoor
open Go.RowKit
def qr (limit confirm:Int):Int:=if 0<=limit/\limit<=1000000/\1<=confirm/\confirm<=10 then 0 else 1
def jy (b0 b1 b2 last:Int):Int:=if 0<=b0/\b0<=10/\0<=b1/\b1<=10/\0<=b2/\b2<=10/\ -1000000<=last/\last<=1000000 then 0 else 3
def wI (t:Bool) (x:Int):Int:=if t=true/\¬(-1000000<=x/\x<=1000000)then 1 else 0
def WC (b:Bool):Int:=if b=true then 0 else 1
def gB (t o:Nat->Bool) (x:Nat->Int):Nat->List Int
 |0=>[]
 |k+1=>gB t o x k++(if t k&& !o k then[x k]else[])
theorem zbx {t o:Nat->Bool} {x:Nat->Int} {k:Nat} (h1:t k=true) (h2:o k=false):gB t o x (k+1)=gB t o x k++[x k]:=by
 show _++_=_;rw[h1,h2];rfl
theorem WD {t o:Nat->Bool} {x:Nat->Int} {k:Nat} (h:t k=false\/o k=true):gB t o x (k+1)=gB t o x k:=by
 show _++_=_;rcases h with h|h<;>rw[h]<;>simp
theorem WE (t o:Nat->Bool) (x:Nat->Int) (k:Nat):(gB t o x k).length<=k:=by
 induction k with
 |zero=>exact Nat.le_refl _
 |succ k ih=>unfold gB;rw[List.length_append];split<;>simp<;>omega
def K1 (f:Nat->Int) (n:Nat) (last:Int):Int:=if n=0 then last else if n=1 then f 0 else if n=2 then(f 0+f 1)/2 else zeM (f 0) (f 1) (f 2)
theorem Vc (t o:Nat->Bool) (x:Nat->Int) (last:Int):
  K1 (fun k=>(gB t o x 3)[k]?.getD 0) (gB t o x 3).length last=xQ (t 0&& !o 0) (t 1&& !o 1) (t 2&& !o 2) (x 0) (x 1) (x 2) last:=by
 unfold gB gB gB gB
 cases(t 0&& !o 0)<;>cases(t 1&& !o 1)<;>cases(t 2&& !o 2)<;>rfl
theorem zby (t o:Nat->Bool) (x:Nat->Int):((gB t o x 3).length:Int)=WA (t 0&& !o 0) (t 1&& !o 1) (t 2&& !o 2):=by
 unfold gB gB gB gB
 cases(t 0&& !o 0)<;>cases(t 1&& !o 1)<;>cases(t 2&& !o 2)<;>rfl
theorem zfV (t o:Nat->Bool) (x:Nat->Int) (L:Int) (n:Nat) (h:∀k,k<n->t k=true-> -L<=x k/\x k<=L):∀y∈gB t o x n,-L<=y/\y<=L:=by
 induction n with
 |zero=>intro y hy;cases hy
 |succ n ih=>
  intro y hy
  unfold gB at hy
  rw[List.mem_append]at hy
  rcases hy with hy|hy
  ·exact ih (fun k hk=>h k (by omega)) y hy
  ·split at hy
   ·rename_i hc
    simp at hy hc
    rw[hy]
    exact h n (by omega) hc.1
   ·cases hy
def jI (t o:Nat->Bool) (x:Nat->Int) (v limit:Int) (b:Nat->Int) (k j:Nat):Int:=if j<k then ziz (t j) (o j) (x j) v limit (b j)else b j
def j6 (t o:Nat->Bool) (x:Nat->Int) (v limit confirm:Int) (b:Nat->Int) (k j:Nat):Bool:=if j<k then ziS (t j) (o j) (x j) v limit confirm (b j)else o j
theorem WF (t o:Nat->Bool) (x:Nat->Int) (v limit:Int) (b:Nat->Int) (j:Nat):jI t o x v limit b 0 j=b j:=if_neg (Nat.not_lt_zero j)
theorem WG (t o:Nat->Bool) (x:Nat->Int) (v limit confirm:Int) (b:Nat->Int) (j:Nat):j6 t o x v limit confirm b 0 j=o j:=if_neg (Nat.not_lt_zero j)
theorem ZR (t o:Nat->Bool) (x:Nat->Int) (v limit:Int) (b:Nat->Int) (k:Nat):jI t o x v limit b k k=b k:=if_neg (Nat.lt_irrefl k)
theorem v7 (t o:Nat->Bool) (x:Nat->Int) (v limit confirm:Int) (b:Nat->Int) (k:Nat):j6 t o x v limit confirm b k k=o k:=if_neg (Nat.lt_irrefl k)
theorem ZS {t o:Nat->Bool} {x:Nat->Int} {v limit:Int} {b:Nat->Int} {k j:Nat} (h:j≠k):jI t o x v limit b (k+1) j=jI t o x v limit b k j:=by
 unfold jI;by_cases h1:j<k
 ·rw[if_pos h1,if_pos (by omega)]
 ·rw[if_neg h1,if_neg (by omega)]
theorem ZT {t o:Nat->Bool} {x:Nat->Int} {v limit confirm:Int} {b:Nat->Int} {k j:Nat} (h:j≠k):j6 t o x v limit confirm b (k+1) j=j6 t o x v limit confirm b k j:=by
 unfold j6;by_cases h1:j<k
 ·rw[if_pos h1,if_pos (by omega)]
 ·rw[if_neg h1,if_neg (by omega)]
theorem wJ (t o:Nat->Bool) (x:Nat->Int) (v limit:Int) (b:Nat->Int) (k:Nat):jI t o x v limit b (k+1) k=ziz (t k) (o k) (x k) v limit (b k):=if_pos (Nat.lt_succ_self k)
theorem wK (t o:Nat->Bool) (x:Nat->Int) (v limit confirm:Int) (b:Nat->Int) (k:Nat):j6 t o x v limit confirm b (k+1) k=ziS (t k) (o k) (x k) v limit confirm (b k):=if_pos (Nat.lt_succ_self k)
end Go.Proofs.YtoakpnoajmngmaaGreatDoor
namespace Go.Proofs.YtoakpnoajmngmaaGreatDoor
open Go.RowKit
def qp (k:Int):Value:=if k=0 then .nilIface else .iface 44 (.int .i64 k)
theorem zeN:qp 0= .nilIface:=rfl
theorem gI {k:Int} (h:k≠0):qp k= .iface 44 (.int .i64 k):=if_neg h
theorem kL (x lo hi:Int) (w:World):Calls Tryz.prog 80 #[.int .i64 x,.int .i64 lo,.int .i64 hi] w fun e w'=>e= .returned (.int .i64 (zm x lo hi))/\w=w':=by
 go_enter Tryz.func80,Tryz.ntmps80
 go_wp2
 all_goals go_ret
 all_goals refine⟨zD ?_,rfl⟩
 all_goals unfold zm
 all_goals(repeat' split)<;>(try simp_all)<;>omega
theorem WH (x lo hi:Int) (w:World):Calls Tryz.prog 65 #[.int .i64 x,.int .i64 lo,.int .i64 hi] w fun e w'=>e= .returned (.int .i64 (min (max x lo) hi))/\w=w':=by
 go_enter Tryz.func65,Tryz.ntmps65
 go_wp2
 all_goals go_ret
 all_goals refine⟨zD ?_,rfl⟩
 all_goals omega
theorem znp (x:Int) (w:World):Calls Tryz.prog 164 #[.int .i64 x] w fun e w'=>e= .returned (.int .i64 (pof x))/\w=w':=by
 go_enter Tryz.func164,Tryz.ntmps164
 go_wp2_with (go_at_call 80;((with_reducible refine(kL _ _ _ _).mono ?_);rintro e w' ⟨rfl,rfl⟩))
 go_ret
 exact⟨zD (ziQ x),rfl⟩
theorem znq (x:Int) (w:World):Calls Tryz.prog 156 #[.int .i64 x] w fun e w'=>e= .returned (.int .i64 (pof x))/\w=w':=by
 go_enter Tryz.func156,Tryz.ntmps156
 go_wp2_with (go_at_call 65;((with_reducible refine(WH _ _ _ _).mono ?_);rintro e w' ⟨rfl,rfl⟩))
 go_ret
 exact⟨zD (by unfold pof;omega),rfl⟩
theorem wL (n d:Int) (w:World) (hd:0<d) (hd2:d<=4611686018427387904) (h2:n<=4611686014132420609) (hp:0<=n):
  Calls Tryz.prog 165 #[.int .i64 n,.int .i64 d] w fun e w'=>e= .returned (.int .i64 ((n+d/2)/d))/\w=w':=by
 go_enter Tryz.func165,Tryz.ntmps165
 go_wp2_with fail
 go_ret
 exact⟨rfl,rfl⟩
theorem WI (n:Int):(n+128)/256=(2*n+256)/(2*256):=by omega
theorem K2 (n:Int) (w:World) (h1: -4611686014132420609<=n) (h2:n<=4611686014132420609):
  Calls Tryz.prog 165 #[.int .i64 n,.int .i64 256] w fun e w'=>e= .returned (.int .i64 (wE n 256))/\w=w':=by
 by_cases hn:n<0
 ·go_enter Tryz.func165,Tryz.ntmps165
  have b2:(-n+256/2)/256<=4611686014132420609:=by omega
  have b3:0<=(-n+256/2)/256:=by omega
  go_wp2_with (go_at_call 165;((with_reducible refine(wL _ _ _ (by omega) (by omega) (by omega) (by omega)).mono ?_);rintro e w' ⟨rfl,rfl⟩))
  go_ret
  exact⟨zD (by unfold wE;rw[if_pos hn,<-WI]),rfl⟩
 ·refine(wL _ _ _ (by omega) (by omega) (by omega) (by omega)).mono ?_
  rintro e w' ⟨rfl,rfl⟩
  exact⟨zD (by unfold wE;rw[if_neg hn,<-WI];omega),rfl⟩
theorem ziT (a b:Int) (w:World):Calls Tryz.prog 147 #[.int .i64 a,.int .i64 b] w fun e w'=>e= .returned (.int .i64 (ziy a b))/\w=w':=by
 have hb:=Ww a b
 obtain⟨hb1,hb2⟩:=hb
 go_enter Tryz.func147,Tryz.ntmps147
 go_wp2_with (first|(go_at_call 164;((with_reducible refine(znp _ _).mono ?_);rintro e w' ⟨rfl,rfl⟩))|(go_at_call 165;((with_reducible refine(K2 _ _ (by assumption) (by assumption)).mono ?_);rintro e w' ⟨rfl,rfl⟩)))
 go_ret
 exact⟨zD rfl,rfl⟩
theorem Xk (n d:Int) (w:World) (hd:0<d) (hd2:d<=2147483648) (h2:n<=4611686014132420609) (hp:0<=n):
  Calls Tryz.prog 157 #[.int .i64 n,.int .i64 d] w fun e w'=>e= .returned (.int .i64 ((2*n+d)/(2*d)))/\w=w':=by
 go_enter Tryz.func157,Tryz.ntmps157
 go_wp2_with fail
 go_ret
 exact⟨rfl,rfl⟩
theorem zbz (n d:Int) (w:World) (hd:0<d) (hd2:d<=2147483648) (h1: -4611686014132420609<=n) (h2:n<=4611686014132420609):
  Calls Tryz.prog 157 #[.int .i64 n,.int .i64 d] w fun e w'=>e= .returned (.int .i64 (wE n d))/\w=w':=by
 by_cases hn:n<0
 ·have hb:=zbu (-n) d 4611686014132420609 hd (by omega) (by omega) (by omega)
  unfold wE at hb
  rw[if_neg (by omega)]at hb
  obtain⟨hb1,hb2⟩:=hb
  go_enter Tryz.func157,Tryz.ntmps157
  go_wp2_with (go_at_call 157;((with_reducible refine(Xk _ _ _ (by omega) (by omega) (by omega) (by omega)).mono ?_);rintro e w' ⟨rfl,rfl⟩))
  go_ret
  exact⟨zD (by unfold wE;rw[if_pos hn]),rfl⟩
 ·refine(Xk _ _ _ (by omega) (by omega) (by omega) (by omega)).mono ?_
  rintro e w' ⟨rfl,rfl⟩
  exact⟨zD (by unfold wE;rw[if_neg hn]),rfl⟩
theorem ziU (a b:Int) (w:World):Calls Tryz.prog 133 #[.int .i64 a,.int .i64 b] w fun e w'=>e= .returned (.int .i64 (ziy a b))/\w=w':=by
 have hb:=Ww a b
 obtain⟨hb1,hb2⟩:=hb
 go_enter Tryz.func133,Tryz.ntmps133
 go_wp2_with (first|(go_at_call 156;((with_reducible refine(znq _ _).mono ?_);rintro e w' ⟨rfl,rfl⟩))|(go_at_call 157;((with_reducible refine(zbz _ _ _ (by omega) (by omega) (by assumption) (by assumption)).mono ?_);rintro e w' ⟨rfl,rfl⟩)))
 go_ret
 exact⟨zD rfl,rfl⟩
end Go.Proofs.YtoakpnoajmngmaaGreatDoor
