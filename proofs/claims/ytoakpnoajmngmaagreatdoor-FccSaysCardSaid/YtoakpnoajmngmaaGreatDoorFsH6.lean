import Derived.Test.YtoakpnoajmngmaaGreatDoorWant
import Derived.Test.YtoakpnoajmngmaaGreatDoorTopSharePl
import Derived.Test.YtoakpnoajmngmaaGreatDoorVote3
import Derived.Test.YtoakpnoajmngmaaGreatDoorVote
import Derived.Test.YtoakpnoajmngmaaGreatDoorVote5
import Derived.Test.YtoakpnoajmngmaaGreatDoorLaw2
import Derived.Test.YtoakpnoajmngmaaGreatDoorTop
import Derived.Test.YtoakpnoajmngmaaGreatDoorWgA
import Derived.Test.YtoakpnoajmngmaaGreatDoorLineA
import Derived.Test.YtoakpnoajmngmaaGreatDoorShareT
import Derived.Test.YtoakpnoajmngmaaGreatDoorWgPl
set_option linter.unusedVariables false
set_option linter.unusedSimpArgs false
namespace Go.Proofs.YtoakpnoajmngmaaGreatDoor.Sx
open Go.RowKit
def fnd (L:List Rd) (l s:Int):Rd × Bool:=match L.find? fun q=>decide (q.l=l)&&decide (q.s=s)with
 |some r=>(r,true)
 |none=>(rd0,false)
theorem WT (L:List Rd) (l s:Int):jU L l s (fnd L l s).1 (fnd L l s).2:=by
 unfold fnd jU
 cases h:L.find? fun q=>decide (q.l=l)&&decide (q.s=s)with
 |none=>
  refine .inr ⟨rfl,rfl,fun i q hq hc=>?_⟩
  have:=List.find?_eq_none.1 h q (List.mem_of_getElem? hq)
  simp[hc.1,hc.2]at this
 |some r=>
  have h1:=List.find?_some h
  simp only[Bool.and_eq_true,decide_eq_true_eq]at h1
  obtain⟨hp,l1,l2,he,hn⟩:=List.find?_eq_some_iff_append.1 h
  refine .inl ⟨rfl,h1.1,h1.2,l1.length,by rw[he];simp,fun i q hi hq hc=>?_⟩
  have hm:l1[i]? =some q:=by rw[he,List.getElem?_append_left hi]at hq;exact hq
  have:=hn q (List.mem_of_getElem? hm)
  simp[hc.1,hc.2]at this
structure Frm where
 G:Nat->GD
 N:Nat->Nat
 ax:Nat->Nat->Int
 bk:Nat->Nat->Int
 bo:Nat->Nat->Bool
 hd:Nat->Nat->Int
 lim:Int
 con:Int
 law:Int
 L:List Rd
namespace Frm
def there (C:Frm) (l s:Nat):Bool:=(fnd C.L l s).2&&decide ((fnd C.L l s).1.st=3)
def data (C:Frm) (l s:Nat):Int:=if C.there l s=true then(fnd C.L l s).1.d else 0
def lab (k:Nat):Nat:=if k=2 then 8 else 1+k
def vlim (C:Frm) (k:Nat):Int:=if k=2 then C.lim else C.ax k 8
def vcon (C:Frm) (k:Nat):Int:=if k=2 then C.con else C.ax k 9
def t (C:Frm) (k j:Nat):Bool:=C.there (lab k) j
def x (C:Frm) (k j:Nat):Int:=C.data (lab k) j
def vv (C:Frm) (k:Nat):Int:=xQ (C.t k 0&& !C.bo k 0) (C.t k 1&& !C.bo k 1) (C.t k 2&& !C.bo k 2) (C.x k 0) (C.x k 1) (C.x k 2) (C.bk k 6)
def mm (C:Frm) (k:Nat):Int:=WA (C.t k 0&& !C.bo k 0) (C.t k 1&& !C.bo k 1) (C.t k 2&& !C.bo k 2)
def bn (C:Frm) (k j:Nat):Int:=jI (C.t k) (C.bo k) (C.x k) (C.vv k) (C.vlim k) (C.bk k) 3 j
def on (C:Frm) (k j:Nat):Bool:=j6 (C.t k) (C.bo k) (C.x k) (C.vv k) (C.vlim k) (C.vcon k) (C.bk k) 3 j
def left (C:Frm) (k:Nat):Int:=jG (C.on k) 3
def wt (C:Frm) (k j:Nat):Int × Int × Bool:=zbp (C.ax k 7) (C.ax k 10) ((C.G (4+k)).fi j 0) ((C.G (4+k)).fi j 1) ((C.G (4+k)).fb j 2) (C.there (16+(4*k+j)) 3) (C.data (16+(4*k+j)) 3)
def sound (C:Frm) (k:Nat):Nat->Int
 |0=>0
 |n+1=>if(C.wt k n).2.2=false then C.sound k n+1 else C.sound k n
def lw (C:Frm) (k:Nat):Int:=xV (C.left k) (C.sound k (C.N k)) (C.N k)
def worst (C:Frm):Int:=max (C.lw 0) (C.lw 1)
def law' (C:Frm):Int:=if C.data 40 3=1 then C.worst else max C.law C.worst
def most (C:Frm) (k:Nat):Int:=(C.N k-1:Int)*C.ax k 5
def rate (C:Frm) (k:Nat):Int:=(C.N k-1:Int)*C.ax k 6
def seen (C:Frm) (k:Nat):GD:=⟨none,0,C.N k,[true,true,false],fun j i=>if j<C.N k then(if i=0 then(C.wt k j).1 else(C.wt k j).2.1)else 0,fun j _=>(C.wt k j).2.2⟩
theorem seen_fi {C:Frm} {k j:Nat} (hj:j<C.N k):(C.seen k).fi j 0=(C.wt k j).1/\(C.seen k).fi j 1=(C.wt k j).2.1:=⟨if_pos hj,if_pos hj⟩
def sum (C:Frm) (k:Nat):Int:=qg (fun j=>(C.wt k j).1) (C.N k)
def prev (C:Frm) (k:Nat):Int:=zm (C.sum k) (-C.most k) (C.most k)
def stick (C:Frm) (k:Nat):Int:=zm (C.data (32+k) 3) (-100) 100
def wn (C:Frm) (k:Nat):Int × Int × Int:=vl (C.ax k 0) (C.ax k 1) (C.ax k 11) (C.most k) (qa (C.G (2*k)).f (C.G (2*k+1)).f (C.G (2*k)).n (C.vv 2)) (C.hd k 0) (C.hd k 1) (C.hd k 2) (C.stick k) (C.vv k) C.law' (C.prev k)
def dn (C:Frm) (k:Nat):Int:=pdn (C.ax k 0) (C.ax k 1) (C.ax k 2) (C.ax k 3+C.ax k 7) (C.most k) (C.rate k) (C.vv k) (C.prev k)
def up (C:Frm) (k:Nat):Int:=pup (C.ax k 0) (C.ax k 1) (C.ax k 2) (C.ax k 3+C.ax k 7) (C.most k) (C.rate k) (C.vv k) (C.prev k)
def tg (C:Frm) (k:Nat):Int:=if C.law'<=1 then zm (C.wn k).1 (C.dn k) (C.up k)else zm (C.wn k).1 (C.prev k-C.rate k) (C.prev k+C.rate k)
def pl (C:Frm) (k j:Nat):Int:=Wi (C.seen k) (C.ax k 5) (C.ax k 6) (C.tg k) j
def sum2 (C:Frm) (k:Nat):Int:=qg (C.pl k) (C.N k)
def told (C:Frm) (k:Nat):Int:=if(C.wn k).1=C.sum2 k/\C.law'=0 then zm ((C.wn k).2.2+jr (C.ax k 12) (C.wn k).2.1 (C.vv k)) (-C.most k) (C.most k)else(C.wn k).2.2
def word (C:Frm) (q:Nat):Nat:=if q=8 then xO (qV 80) 3 3 (jm C.law')else xO (qV (64+q)) 3 (if(C.wt (q/4) (q%4)).2.2=true then 0 else 3) (jm (C.pl (q/4) (q%4)))
structure Good (C:Frm):Prop where
 n:∀k,k<2->2<=C.N k/\C.N k<=4
 act:∀k,k<2->gD (C.ax k 5) (C.ax k 6) (C.ax k 7) (C.ax k 10)
 vote:∀k,k<3->0<=C.vlim k/\C.vlim k<=1000000/\1<=C.vcon k/\C.vcon k<=10
 guard:∀k,k<2->zs (C.ax k 0) (C.ax k 1) (C.ax k 2) (C.ax k 3+C.ax k 7) (C.most k) (C.rate k)=0
 hold:∀k,k<2->zK (C.ax k 0) (C.ax k 1) (C.ax k 11) (C.ax k 12) (C.most k) (zC (C.G (2*k)).f (C.G (2*k)).n (C.G (2*k+1)).f (C.G (2*k+1)).n) (zX (C.G (2*k+1)).f (C.G (2*k+1)).n)=0
 bank:∀k,k<3->(∀j,j<3->0<=C.bk k j/\C.bk k j<=10)/\ -1000000<=C.bk k 6/\C.bk k 6<=1000000
 servo:∀k j,k<2->j<C.N k->zj (C.ax k 5) (C.ax k 6) (C.ax k 7) (C.ax k 10) ((C.G (4+k)).fi j 0) ((C.G (4+k)).fi j 1) ((C.G (4+k)).fb j 2)=0
 held:∀k,k<2->C.ax k 0<=C.hd k 0/\C.hd k 0<=C.ax k 1/\ -C.most k<=C.hd k 1/\C.hd k 1<=C.most k/\0<=C.hd k 2/\C.hd k 2<=3
 law:0<=C.law/\C.law<=3
 read:∀r∈C.L,r.Fine
 len:C.L.length<=64
theorem data_bd {C:Frm} (h:C.Good) (l s:Nat): -1000000<=C.data l s/\C.data l s<=1000000:=by
 unfold data
 split
 ·rename_i ht
  unfold there at ht
  rw[Bool.and_eq_true]at ht
  rcases WT C.L l s with⟨_,_,_,k,hk,_⟩|⟨h1,_⟩
  ·have:=h.read _ (List.mem_of_getElem? hk)
   exact⟨this.2.2.2.2.2.2.1,this.2.2.2.2.2.2.2⟩
  ·rw[h1]at ht;cases ht.1
 ·omega
theorem wt_servo {C:Frm} (h:C.Good) {k j:Nat} (hk:k<2) (hj:j<C.N k):zj (C.ax k 5) (C.ax k 6) (C.ax k 7) (C.ax k 10) (C.wt k j).1 (C.wt k j).2.1 (C.wt k j).2.2=0:=by
 obtain⟨h1,h2⟩:=zU (h.servo k j hk hj)
 refine Wx h1 ?_
 unfold wt zbp
 obtain⟨a1,a2,a3,a4,a5,a6⟩:=h2
 split
 ·exact⟨a1,a2,a3,a4,a5,a6⟩
 ·rename_i hc
  have ho:(C.G (4+k)).fb j 2=false:=by
   rcases hb:(C.G (4+k)).fb j 2 with _|_
   ·rfl
   ·exact absurd (.inl hb) hc
  have h5:=a6 ho
  obtain⟨b1,b2,b3,b4,b5,b6,b7,b8⟩:=h1
  split
  ·exact⟨by simp only;omega,by simp only;omega,by simp only;omega,by simp only;omega,fun _=>rfl,fun hc=>(by cases hc)⟩
  ·exact⟨a1,a2,by simp only;omega,by simp only;omega,fun hc=>(by cases hc),fun _=>(by simp only;omega)⟩
theorem wt_bd {C:Frm} (h:C.Good) {k j:Nat} (hk:k<2) (hj:j<C.N k): -1000<=(C.wt k j).1/\(C.wt k j).1<=1000/\0<=(C.wt k j).2.1/\(C.wt k j).2.1<=10:=by
 obtain⟨⟨b1,b2,b3,b4,b5,b6,b7,b8⟩,a1,a2,a3,a4,_⟩:=zU (wt_servo h hk hj)
 omega
theorem most_is {C:Frm} (h:C.Good) {k:Nat} (hk:k<2):1<=C.most k/\C.most k<=3000/\1<=C.rate k/\C.rate k<=3000:=by
 obtain⟨n1,n2⟩:=h.n k hk
 obtain⟨b1,b2,b3,b4,_⟩:=h.act k hk
 unfold most rate
 obtain hn|hn|hn:C.N k=2\/C.N k=3\/C.N k=4:=by omega
 ·rw[hn];omega
 ·rw[hn];omega
 ·rw[hn];omega
theorem zeU {f:Nat->Int} {B:Int}:∀n,(∀i,i<n-> -B<=f i/\f i<=B)-> -(n*B)<=qg f n/\qg f n<=n*B:=by
 intro n
 induction n with
 |zero=>intro _;simp[qg]
 |succ n ih=>
  intro h
  have h1:=ih (fun i hi=>h i (by omega))
  have h2:=h n (by omega)
  have e:((n+1:Nat):Int)*B=n*B+B:=by rw[Int.natCast_add,Int.add_mul];simp
  simp only[qg]
  rw[e]
  omega
theorem sum_bd {C:Frm} (h:C.Good) {k:Nat} (hk:k<2): -4000<=C.sum k/\C.sum k<=4000:=by
 obtain⟨n1,n2⟩:=h.n k hk
 have:=zeU (f:=fun j=>(C.wt k j).1) (B:=1000) (C.N k) (fun i hi=>⟨(wt_bd h hk hi).1,(wt_bd h hk hi).2.1⟩)
 unfold sum
 omega
theorem prev_bd {C:Frm} (h:C.Good) {k:Nat} (hk:k<2): -C.most k<=C.prev k/\C.prev k<=C.most k:=by
 have:=most_is h hk
 exact qQ _ (by omega)
theorem zbK (C:Frm) (k:Nat):∀n,0<=C.sound k n/\C.sound k n<=n:=by
 intro n
 induction n with
 |zero=>exact⟨Int.le_refl _,Int.le_refl _⟩
 |succ n ih=>unfold sound;split<;>omega
theorem left_bd (C:Frm) (k:Nat):0<=C.left k/\C.left k<=3:=mC _ _
theorem health {C:Frm} (h:C.Good) {k:Nat} (hk:k<2):j8 (C.left k) (C.sound k (C.N k)) (C.N k)=0:=by
 have:=left_bd C k
 have:=zbK C k (C.N k)
 have:=h.n k hk
 unfold j8
 rw[if_pos (by omega)]
theorem lw_bd (C:Frm) (k:Nat):0<=C.lw k/\C.lw k<=3:=by
 unfold lw xV
 (repeat' split)<;>omega
theorem law_bd {C:Frm} (h:C.Good):0<=C.law'/\C.law'<=3:=by
 have h0:=lw_bd C 0
 have h1:=lw_bd C 1
 have:=h.law
 unfold law' worst
 split<;>omega
theorem vv_bd {C:Frm} (h:C.Good) {k:Nat} (hk:k<3): -1000000<=C.vv k/\C.vv k<=1000000:=by
 have a0:=data_bd h (lab k) 0
 have a1:=data_bd h (lab k) 1
 have a2:=data_bd h (lab k) 2
 obtain⟨_,b1,b2⟩:=h.bank k hk
 exact WB _ _ _ _ _ _ _ 1000000 b1 b2 (fun _=>a0) (fun _=>a1) (fun _=>a2)
theorem vask {C:Frm} (h:C.Good) {k:Nat} (hk:k<3):qK (por (qr (C.vlim k) (C.vcon k)) (jy (C.bk k 0) (C.bk k 1) (C.bk k 2) (C.bk k 6))) (C.t k) (C.x k) 3=0:=by
 obtain⟨v1,v2,v3,v4⟩:=h.vote k hk
 obtain⟨b0,b1,b2⟩:=h.bank k hk
 have e1:qr (C.vlim k) (C.vcon k)=0:=if_pos ⟨v1,v2,v3,v4⟩
 have e2:jy (C.bk k 0) (C.bk k 1) (C.bk k 2) (C.bk k 6)=0:=by
  have c0:=b0 0 (by omega)
  have c1:=b0 1 (by omega)
  have c2:=b0 2 (by omega)
  exact if_pos ⟨c0.1,c0.2,c1.1,c1.2,c2.1,c2.2,b1,b2⟩
 have hs:∀j,wI (C.t k j) (C.x k j)=0:=fun j=>if_neg fun hc=>hc.2 (data_bd h (lab k) j)
 simp only[qK,e1,e2,hs,por,if_true]
theorem bn_bd {C:Frm} (h:C.Good) {k:Nat} (hk:k<3) {j:Nat} (hj:j<3):0<=C.bn k j/\C.bn k j<=10:=by
 have b0:=(h.bank k hk).1 j hj
 unfold bn jI
 rw[if_pos hj]
 unfold ziz
 (repeat' split)<;>omega
theorem mm_bd (C:Frm) (k:Nat):0<=C.mm k/\C.mm k<=3:=by
 unfold mm WA
 split<;>omega
theorem seen_may {C:Frm} (h:C.Good) {k:Nat} (hk:k<2):qj (C.seen k) (C.ax k 5) (C.ax k 6) (C.ax k 7) (C.ax k 10)=0:=by
 obtain⟨n1,n2⟩:=h.n k hk
 have key:∀i,i<=C.N k->psm (C.seen k) (C.ax k 5) (C.ax k 6) (C.ax k 7) (C.ax k 10) (C.N k) i=0:=by
  intro i
  induction i with
  |zero=>intro _;exact zmP (jQ (h.act k hk)) (by omega) (by omega)
  |succ i ih=>
   intro hi
   rw[zmQ (ih (by omega)),(seen_fi (C:=C) (k:=k) (j:=i) (by omega)).1,(seen_fi (C:=C) (k:=k) (j:=i) (by omega)).2]
   exact wt_servo h hk (by omega)
 exact key _ (Nat.le_refl _)
theorem zkO {t r is:Int} {o:Bool} (ht:0<=t) (hr:1<=r) (h: -t<=is/\is<=t) (y:Int):(yb t r is o).1<=ptk t r is o y/\ptk t r is o y<=(yb t r is o).2:=by
 unfold yb ptk Xf Xg
 cases o
 ·simp only[Bool.false_eq_true,if_false];omega
 ·simp
theorem pl_reach {C:Frm} (h:C.Good) {k j:Nat} (hk:k<2) (hj:j<C.N k):(yb (C.ax k 5) (C.ax k 6) (C.wt k j).1 (C.wt k j).2.2).1<=C.pl k j/\C.pl k j<=(yb (C.ax k 5) (C.ax k 6) (C.wt k j).1 (C.wt k j).2.2).2:=by
 obtain⟨⟨a1,a2,a3,a4,_⟩,b1,b2,_⟩:=zU (wt_servo h hk hj)
 have hp:=zkO (t:=C.ax k 5) (r:=C.ax k 6) (is:=(C.wt k j).1) (o:=(C.wt k j).2.2) (by omega) (by omega) ⟨b1,b2⟩
 unfold pl Wi
 rw[(seen_fi hj).1]
 split
 ·rename_i hc
  have h1:=hp (ve (C.seen k) (C.ax k 5) (C.ax k 6) (C.tg k))
  have h2:=hp (ve (C.seen k) (C.ax k 5) (C.ax k 6) (C.tg k)+1)
  have hc2:ptk (C.ax k 5) (C.ax k 6) (C.wt k j).1 (C.wt k j).2.2 (ve (C.seen k) (C.ax k 5) (C.ax k 6) (C.tg k))<ptk (C.ax k 5) (C.ax k 6) (C.wt k j).1 (C.wt k j).2.2 (ve (C.seen k) (C.ax k 5) (C.ax k 6) (C.tg k)+1):=hc.2
  show _<=ptk (C.ax k 5) (C.ax k 6) (C.wt k j).1 (C.wt k j).2.2 (ve (C.seen k) (C.ax k 5) (C.ax k 6) (C.tg k))+1/\ptk (C.ax k 5) (C.ax k 6) (C.wt k j).1 (C.wt k j).2.2 (ve (C.seen k) (C.ax k 5) (C.ax k 6) (C.tg k))+1<=_
  omega
 ·exact hp _
theorem pl_bd {C:Frm} (h:C.Good) {k j:Nat} (hk:k<2) (hj:j<C.N k): -1000<=C.pl k j/\C.pl k j<=1000:=by
 obtain⟨⟨a1,a2,a3,a4,_⟩,b1,b2,_⟩:=zU (wt_servo h hk hj)
 have:=pl_reach h hk hj
 unfold yb Xf Xg at this
 split at this<;>simp only at this<;>omega
theorem sum2_bd {C:Frm} (h:C.Good) {k:Nat} (hk:k<2): -4000<=C.sum2 k/\C.sum2 k<=4000:=by
 obtain⟨n1,n2⟩:=h.n k hk
 have:=zeU (f:=C.pl k) (B:=1000) (C.N k) (fun i hi=>pl_bd h hk hi)
 unfold sum2
 omega
theorem stick_bd (C:Frm) (k:Nat): -100<=C.stick k/\C.stick k<=100:=qQ _ (by omega)
theorem wn_bd {C:Frm} (h:C.Good) {k:Nat} (hk:k<2):(-4000<=(C.wn k).1/\(C.wn k).1<=4000)/\(C.ax k 0<=(C.wn k).2.1/\(C.wn k).2.1<=C.ax k 1)/\(-C.most k<=(C.wn k).2.2/\(C.wn k).2.2<=C.most k):=by
 obtain⟨m1,m2,m3,m4⟩:=most_is h hk
 obtain⟨q1,q2,q3,q4,q5,q6⟩:=h.held k hk
 obtain⟨⟨r1,r2,r3⟩,r4,r5,r6,hpl⟩:=zr (h.hold k hk)
 have hs:=stick_bd C k
 obtain⟨u1,u2,u3⟩:=zij (s:=C.stick k) (m:=C.most k) hs ⟨by omega,by omega⟩
 have c1:=fun y=>qQ y (show C.ax k 0<=C.ax k 1 by omega)
 have c2:=fun y=>qQ y (show -C.most k<=C.most k by omega)
 unfold wn vl
 split
 ·exact⟨⟨by simp only;omega,by simp only;omega⟩,⟨by simp only;omega,by simp only;omega⟩,⟨by simp only;omega,by simp only;omega⟩⟩
 ·split
  ·exact⟨⟨by simp only;omega,by simp only;omega⟩,⟨by simp only;omega,by simp only;omega⟩,⟨by simp only;omega,by simp only;omega⟩⟩
  ·refine⟨?_,c1 _,?_⟩
   ·have:=c2 (jr (qa (C.G (2*k)).f (C.G (2*k+1)).f (C.G (2*k)).n (C.vv 2)) (zm ((if C.law'=C.hd k 2 then C.hd k 0 else zm (C.vv k) (C.ax k 0) (C.ax k 1))+(C.stick k*C.ax k 11).tdiv 100) (C.ax k 0) (C.ax k 1)) (C.vv k)+if C.law'=C.hd k 2 then C.hd k 1 else zm (C.prev k-jr (qa (C.G (2*k)).f (C.G (2*k+1)).f (C.G (2*k)).n (C.vv 2)) (zm ((if C.law'=C.hd k 2 then C.hd k 0 else zm (C.vv k) (C.ax k 0) (C.ax k 1))+(C.stick k*C.ax k 11).tdiv 100) (C.ax k 0) (C.ax k 1)) (C.vv k)) (-C.most k) (C.most k))
    exact⟨by simp only;omega,by simp only;omega⟩
   ·simp only
    split
    ·exact⟨q3,q4⟩
    ·exact c2 _
theorem told_bd {C:Frm} (h:C.Good) {k:Nat} (hk:k<2): -C.most k<=C.told k/\C.told k<=C.most k:=by
 obtain⟨m1,m2,m3,m4⟩:=most_is h hk
 have:=(wn_bd h hk).2.2
 unfold told
 split
 ·exact qQ _ (by omega)
 ·exact this
theorem ask0 {C:Frm} (h:C.Good) {k:Nat} (hk:k<2):por (zs (C.ax k 0) (C.ax k 1) (C.ax k 2) (C.ax k 3+C.ax k 7) (C.most k) (C.rate k)) (jC (C.most k) (C.prev k))=0:=by
 have hp:=prev_bd h hk
 unfold por jC
 rw[if_pos (h.guard k hk),if_neg (by omega)]
end Frm
end Go.Proofs.YtoakpnoajmngmaaGreatDoor.Sx
namespace Go.Proofs.YtoakpnoajmngmaaGreatDoor.Sx
open Go.RowKit
theorem Jy:∀ {l m:List E},jv l m=true->l=m
 |[],[],_=>rfl
 |a::l,b::m,h=>by
  simp only[jv,Bool.and_eq_true]at h
  rw[E.same_eq h.1,Jy h.2]
 |[],_::_,h=>by simp[jv]at h
 |_::_,[],h=>by simp[jv]at h
theorem qv {f:Nat->List E} {l:List E} {k:Nat}:∀ {r:List Nat},km f l r=some k->k∈r/\l=f k
 |[],h=>by simp[km]at h
 |a::r,h=>by
  simp only[km]at h
  split at h
  ·rename_i hs
   cases h
   exact⟨.head _,Jy hs⟩
  ·exact⟨.tail _ (qv h).1,(qv h).2⟩
def unL (q:Nat):Nat:=if q<9 then(if q/3=2 then 8 else q/3+1)else q+7
def unS (q:Nat):Nat:=if q<9 then q%3 else 3
namespace Frm
def fnS (C:Frm) (bad:Int) (id:Nat):Int:=
 if id<230 then(if(id-200)%10<3 then C.bn ((id-200)/10) ((id-200)%10)else if(id-200)%10=6 then C.vv ((id-200)/10)else C.mm ((id-200)/10))
 else if id<240 then C.left (id-230)
 else if id<264 then(if(id-240)%3=0 then(C.wt ((id-240)/3/4) ((id-240)/3%4)).1 else(C.wt ((id-240)/3/4) ((id-240)/3%4)).2.1)
 else if id<280 then C.lw (id-270)
 else if id<282 then C.sum (id-280)
 else if id<284 then C.sum2 (id-282)
 else if id<296 then(if(id-290)%3=0 then(C.wn ((id-290)/3)).1 else if(id-290)%3=1 then(C.wn ((id-290)/3)).2.1 else(C.wn ((id-290)/3)).2.2)
 else if id<304 then(if(id-300)%2=0 then C.dn ((id-300)/2)else C.up ((id-300)/2))
 else if id<312 then C.prev (id-310)
 else if id<314 then C.stick (id-312)
 else if id<316 then zm (C.wn (id-314)).1 (C.dn (id-314)) (C.up (id-314))
 else if id<318 then zm (C.wn (id-316)).1 (C.prev (id-316)-C.rate (id-316)) (C.prev (id-316)+C.rate (id-316))
 else if id<328 then C.pl ((id-320)/4) ((id-320)%4)
 else if id<332 then C.told (id-330)
 else if id<349 then C.word (id-340)
 else if id<500 then C.data (unL ((id-400)/2)) (unS ((id-400)/2))
 else if id=500 then C.L.length
 else bad
def fbS (C:Frm) (id:Nat):Bool:=
 if id<230 then C.on ((id-200)/10) ((id-200)%10-3)
 else if id<264 then(C.wt ((id-240)/3/4) ((id-240)/3%4)).2.2
 else C.there (unL ((id-400)/2)) (unS ((id-400)/2))
def ivS (C:Frm) (words:Int) (n:Nat):Int:=
 if n<40 then C.ax 0 (n-20)
 else if n<60 then C.ax 1 (n-40)
 else if n=60 then C.lim
 else if n=61 then C.con
 else if n<104 then(C.G (n-100)).n
 else if n<140 then C.bk ((n-110)/10) ((n-110)%10)
 else if n<170 then C.hd ((n-150)/10) ((n-150)%10)
 else if n=170 then C.law
 else words
def bvS (C:Frm) (n:Nat):Bool:=C.bo ((n-110)/10) ((n-110)%10-3)
def rdI (L:List Rd):List Int:=L.flatMap fun r=>[r.l,r.s,r.st,r.d]
end Frm
structure Jq (fn:(Nat->GD)->Nat->List Int->Int) (fb:(Nat->GD)->Nat->List Int->Bool) (G:Nat->GD) (m:Nat->Int) (q:Nat->Bool) (ρ:Env):Prop where
 std:Std fn fb G ρ
 at_:∀k,Nat.blt k 1000=true->ρ.iv k=m k
 bt:∀k,Nat.blt k 1000=true->ρ.bv k=q k
theorem Jq.same {fn:(Nat->GD)->Nat->List Int->Int} {fb:(Nat->GD)->Nat->List Int->Bool} {G:Nat->GD} {m:Nat->Int} {q:Nat->Bool} {ρ ρ':Env} (h:Jq fn fb G m q ρ) (hs:Same ρ ρ' [] []):Jq fn fb G m q ρ':=⟨h.std.same hs,fun k hk=>(zz hs hk).trans (h.at_ k hk),fun k hk=>(Z9 hs hk).trans (h.bt k hk)⟩
structure FsJ (C:Frm) (bad words:Int) (ρ:Env):Prop where
 j:Jq (fun _ id _=>C.fnS bad id) (fun _ id _=>C.fbS id) C.G (C.ivS words) C.bvS ρ
 fl:ρ.fl=fun id _=>if id=900 then Frm.rdI C.L else[]
 nm:∀e∈j9 C.N,e.big ziK=true->ρ.iv (zal e)=e.i ρ
section
variable {C:Frm} {bad words:Int} {ρ:Env}
theorem FsJ.k (J:FsJ C bad words ρ) {id:Nat} (h:Nat.blt id 1000=true):(kE id).i ρ=C.fnS bad id:=J.j.std.f h []
theorem FsJ.kb (J:FsJ C bad words ρ) {id:Nat} (h:Nat.blt id 1000=true):(kE id).b ρ=C.fbS id:=J.j.std.b h []
theorem FsJ.v (J:FsJ C bad words ρ) {n:Nat} (h:Nat.blt n 1000=true):(E.v n).i ρ=C.ivS words n:=J.j.at_ n h
theorem FsJ.b (J:FsJ C bad words ρ) {n:Nat} (h:Nat.blt n 1000=true):(E.bv n).b ρ=C.bvS n:=J.j.bt n h
theorem FsJ.name (J:FsJ C bad words ρ) {e:E} (h:e∈j9 C.N):(nmE e).i ρ=e.i ρ:=by
 unfold nmE
 split
 ·rename_i hb;exact J.nm e h hb
 ·rfl
theorem FsJ.x (J:FsJ C bad words ρ) {k j:Nat} (hk:k<2) (hj:j<13):(x k j).i ρ=C.ax k j:=by
 unfold Sx.x
 rw[J.v (Nat.ble_eq_true_of_le (by omega))]
 unfold Frm.ivS
 obtain rfl|rfl:k=0\/k=1:=by omega
 ·rw[if_pos (by omega)];congr 1;omega
 ·rw[if_neg (by omega),if_pos (by omega)];congr 1;omega
theorem FsJ.mul (J:FsJ C bad words ρ) (h:C.Good) {k j:Nat} (hk:k<2) (hj:j<13):(zna (C.N k) (Sx.x k j)).i ρ=(C.N k-1:Int)*C.ax k j:=by
 obtain⟨n1,n2⟩:=h.n k hk
 unfold zna
 split
 ·rename_i h2
  rw[J.x hk hj,h2];simp
 ·simp only[E.i,J.x hk hj]
theorem FsJ.most (J:FsJ C bad words ρ) (h:C.Good) {k:Nat} (hk:k<2):(JC k (C.N k)).i ρ=C.most k:=J.mul h hk (by omega)
theorem FsJ.rate (J:FsJ C bad words ρ) (h:C.Good) {k:Nat} (hk:k<2):(zbW k (C.N k)).i ρ=C.rate k:=J.mul h hk (by omega)
theorem FsJ.law (J:FsJ C bad words ρ):XG.i ρ=C.law':=by
 unfold XG
 rw[J.name (List.mem_cons_self ..)]
 have e1:(XF 40 3).i ρ=C.data 40 3:=J.k (id:=467) rfl
 have e2:(kE 270).i ρ=C.lw 0:=J.k rfl
 have e3:(kE 271).i ρ=C.lw 1:=J.k rfl
 have e4:(E.v 170).i ρ=C.law:=J.v rfl
 unfold znb W7 Frm.law' Frm.worst
 simp only[E.i,E.b,e1,e2,e3,decide_eq_true_eq]
 simp only[E.i]at e4
 rw[e4]
end
end Go.Proofs.YtoakpnoajmngmaaGreatDoor.Sx
namespace Go.Proofs.YtoakpnoajmngmaaGreatDoor.Sx
open Go.RowKit
variable {C:Frm} {bad words:Int} {ρ:Env}
theorem FsJ.bank (J:FsJ C bad words ρ) {k:Nat} (hk:k<3):((E.v (110+10*k)).i ρ=C.bk k 0/\(E.v (111+10*k)).i ρ=C.bk k 1/\(E.v (112+10*k)).i ρ=C.bk k 2)/\((E.bv (113+10*k)).b ρ=C.bo k 0/\(E.bv (114+10*k)).b ρ=C.bo k 1/\(E.bv (115+10*k)).b ρ=C.bo k 2)/\(E.v (116+10*k)).i ρ=C.bk k 6:=by
 obtain rfl|rfl|rfl:k=0\/k=1\/k=2:=by omega
 all_goals exact⟨⟨J.v rfl,J.v rfl,J.v rfl⟩,⟨J.b rfl,J.b rfl,J.b rfl⟩,J.v rfl⟩
theorem FsJ.vt (J:FsJ C bad words ρ) {k:Nat} (hk:k<3):((vtE k 0).i ρ=C.bn k 0/\(vtE k 1).i ρ=C.bn k 1/\(vtE k 2).i ρ=C.bn k 2)/\((vtE k 3).b ρ=C.on k 0/\(vtE k 4).b ρ=C.on k 1/\(vtE k 5).b ρ=C.on k 2)/\(vtE k 6).i ρ=C.vv k/\(vtE k 7).i ρ=C.mm k:=by
 obtain rfl|rfl|rfl:k=0\/k=1\/k=2:=by omega
 all_goals exact⟨⟨J.k rfl,J.k rfl,J.k rfl⟩,⟨J.kb rfl,J.kb rfl,J.kb rfl⟩,J.k rfl,J.k rfl⟩
theorem FsJ.smp (J:FsJ C bad words ρ) {k j:Nat} (hk:k<3) (hj:j<3):(zbX (JD k) j).b ρ=C.t k j/\(XF (JD k) j).i ρ=C.x k j:=by
 obtain rfl|rfl|rfl:k=0\/k=1\/k=2:=by omega
 all_goals obtain rfl|rfl|rfl:j=0\/j=1\/j=2:=by omega
 all_goals exact⟨J.kb rfl,J.k rfl⟩
theorem FsJ.vrule (J:FsJ C bad words ρ) {k:Nat} (hk:k<3):∃a b,ze2 k=[a,b]/\a.i ρ=C.vlim k/\b.i ρ=C.vcon k:=by
 obtain rfl|rfl|rfl:k=0\/k=1\/k=2:=by omega
 ·exact⟨_,_,rfl,J.x (k:=0) (j:=8) (by omega) (by omega),J.x (k:=0) (j:=9) (by omega) (by omega)⟩
 ·exact⟨_,_,rfl,J.x (k:=1) (j:=8) (by omega) (by omega),J.x (k:=1) (j:=9) (by omega) (by omega)⟩
 ·exact⟨_,_,rfl,J.v rfl,J.v rfl⟩
theorem Xz (J:FsJ C bad words ρ) (h:C.Good) {tail args:List SV} {gs:List E} {v:SV} (hp:Vi tail args=some (gs,v)) (ht:∀N,SV.okL ρ N tail):∃k,k<3/\(∀b,(SV.denL ρ b args).toArray=#[.agg #[.int .i64 (C.bk k 0),.int .i64 (C.bk k 1),.int .i64 (C.bk k 2),.bool (C.bo k 0),.bool (C.bo k 1),.bool (C.bo k 2),.int .i64 (C.bk k 6)],.agg #[.int .i64 (C.vlim k),.int .i64 (C.vcon k)],.agg #[.bool (C.t k 0),.int .i64 (C.x k 0),.bool (C.t k 1),.int .i64 (C.x k 1),.bool (C.t k 2),.int .i64 (C.x k 2)]])/\
  (∀b,v.den ρ b= .tuple (#[.agg #[.int .i64 (C.bn k 0),.int .i64 (C.bn k 1),.int .i64 (C.bn k 2),.bool (C.on k 0),.bool (C.on k 1),.bool (C.on k 2),.int .i64 (C.vv k)],.agg #[.int .i64 (C.vv k),.int .i64 (C.mm k)]]++(SV.denL ρ b tail).toArray))/\∀N,v.ok ρ N:=by
 unfold Vi at hp
 split at hp
 ·rename_i b0 b1 b2 o0 o1 o2 la li co t0 x0 t1 x1 t2 x2
  split at hp
  ·rename_i k hk
   cases hp
   obtain⟨hm,hE⟩:=qv hk
   have hk3:k<3:=by simp at hm;omega
   obtain⟨⟨a0,a1,a2⟩,⟨a3,a4,a5⟩,a6⟩:=J.bank hk3
   obtain⟨⟨c0,c1,c2⟩,⟨c3,c4,c5⟩,c6,c7⟩:=J.vt hk3
   obtain⟨p,q,hr,r0,r1⟩:=J.vrule hk3
   obtain⟨s0,s1⟩:=J.smp hk3 (show 0<3 by omega)
   obtain⟨s2,s3⟩:=J.smp hk3 (show 1<3 by omega)
   obtain⟨s4,s5⟩:=J.smp hk3 (show 2<3 by omega)
   unfold zk1 zkY at hE
   rw[hr]at hE
   simp only[List.cons_append,List.nil_append,List.cons.injEq,and_true]at hE
   obtain⟨e0,e1,e2,e3,e4,e5,e6,e7,e8,e9,e10,e11,e12,e13,e14⟩:=hE
   have B0:=Frm.bn_bd h hk3 (show 0<3 by omega)
   have B1:=Frm.bn_bd h hk3 (show 1<3 by omega)
   have B2:=Frm.bn_bd h hk3 (show 2<3 by omega)
   have B3:=Frm.vv_bd h hk3
   have B4:=Frm.mm_bd C k
   refine⟨k,hk3,fun b=>?_,fun b=>?_,fun N=>?_⟩
   ·simp only[SV.denL,SV.den,e0,e1,e2,e3,e4,e5,e6,e7,e8,e9,e10,e11,e12,e13,e14,a0,a1,a2,a3,a4,a5,a6,r0,r1,s0,s1,s2,s3,s4,s5]
   ·unfold zgq
    rw[show SV.tup ([SV.agg [kI (200+10*k) 0 10,kI (201+10*k) 0 10,kI (202+10*k) 0 10,kB (203+10*k),kB (204+10*k),kB (205+10*k),kI (206+10*k) (-1000000) 1000000],SV.agg [kI (206+10*k) (-1000000) 1000000,kI (207+10*k) 0 3]]++tail)=SV.tup (SV.agg [kI (200+10*k) 0 10,kI (201+10*k) 0 10,kI (202+10*k) 0 10,kB (203+10*k),kB (204+10*k),kB (205+10*k),kI (206+10*k) (-1000000) 1000000]::SV.agg [kI (206+10*k) (-1000000) 1000000,kI (207+10*k) 0 3]::tail)from rfl]
    unfold vtE at c0 c1 c2 c3 c4 c5 c6 c7
    have g:∀j,200+10*k+j=200+j+10*k:=fun j=>by omega
    simp only[g,Nat.add_zero,Nat.reduceAdd]at c0 c1 c2 c3 c4 c5 c6 c7
    simp only[SV.den,SV.denL,kI,kB,c0,c1,c2,c3,c4,c5,c6,c7]
    simp
   ·unfold zgq
    unfold vtE at c0 c1 c2 c3 c4 c5 c6 c7
    have g:∀j,200+10*k+j=200+j+10*k:=fun j=>by omega
    simp only[g,Nat.add_zero,Nat.reduceAdd]at c0 c1 c2 c3 c4 c5 c6 c7
    simp only[List.cons_append,List.nil_append,SV.ok,SV.okL,kI,kB,R.ok,c0,c1,c2,c6,c7,and_true,true_and]
    exact⟨⟨B0,B1,B2,B3⟩,⟨B3,B4⟩,ht N⟩
  ·cases hp
 ·cases hp
theorem zf9 (J:FsJ C bad words ρ) (h:C.Good):HOK Tryz.prog ρ (zb 74 (Vi [.nili])):=by
 refine zo fun args gs v hp hg b base w N hok hm hbase=>?_
 obtain⟨k,hk,e1,e2,e3⟩:=Xz J h hp (fun N=>⟨trivial,trivial⟩)
 rw[e1]
 obtain⟨v1,v2⟩:=Frm.vv_bd h hk
 refine(VU (C.bk k) (C.bo k) (C.bk k 6) (C.vlim k) (C.vcon k) (C.t k) (C.x k) w (Frm.vask h hk) (C.vv k) (C.mm k) (fun _=>rfl) (fun _=>rfl) v1 v2 (C.bn k) (C.on k) (fun j _=>rfl) (fun j _=>rfl)).mono ?_
 rintro e w' ⟨h1,h2⟩
 exact⟨by rw[h1,e2];rfl,e3 N,h2⟩
theorem zga (J:FsJ C bad words ρ) (h:C.Good):HOK Tryz.prog ρ (zb 62 (Vi [])):=by
 refine zo fun args gs v hp hg b base w N hok hm hbase=>?_
 obtain⟨k,hk,e1,e2,e3⟩:=Xz J h hp (fun N=>trivial)
 rw[e1]
 obtain⟨v1,v2⟩:=Frm.vv_bd h hk
 obtain⟨l1,l2,l3,l4⟩:=h.vote k hk
 obtain⟨b0,b1,b2⟩:=h.bank k hk
 refine(zem (C.bk k) (C.bo k) (C.bk k 6) (C.vlim k) (C.vcon k) (C.t k) (C.x k) w l1 l2 l3 l4 b1 b2 (fun j hj=>b0 j hj) (fun j _ _=>Frm.data_bd h (Frm.lab k) j) (C.vv k) (C.mm k) (fun _=>zaU _ _ _ _ (fun j _ _=>Frm.data_bd h (Frm.lab k) j)) (fun _=>zel _ _) v1 v2 (C.bn k) (C.on k) (fun j _=>rfl) (fun j _=>rfl)).mono ?_
 rintro e w' ⟨h1,h2⟩
 exact⟨by rw[h1,e2];rfl,e3 N,h2⟩
theorem zbL (J:FsJ C bad words ρ) {args:List SV} {gs:List E} {v:SV} (hp:Yc args=some (gs,v)):∃k,k<3/\(∀b,∃b0 b1 b2 la,(SV.denL ρ b args).toArray=#[.agg #[.int .i64 b0,.int .i64 b1,.int .i64 b2,.bool (C.on k 0),.bool (C.on k 1),.bool (C.on k 2),.int .i64 la]])/\(∀b,v.den ρ b= .int .i64 (C.left k))/\∀N,v.ok ρ N:=by
 unfold Yc at hp
 split at hp
 ·rename_i b0 b1 b2 o0 o1 o2 la
  split at hp
  ·rename_i k hk
   cases hp
   obtain⟨hm,hE⟩:=qv hk
   have hk3:k<3:=by simp at hm;omega
   obtain⟨_,⟨c3,c4,c5⟩,_⟩:=J.vt hk3
   unfold zk2 at hE
   simp only[List.cons.injEq,and_true]at hE
   obtain⟨e0,e1,e2⟩:=hE
   have hl:(kE (230+k)).i ρ=C.left k:=by
    obtain rfl|rfl|rfl:k=0\/k=1\/k=2:=by omega
    all_goals exact J.k rfl
   have hb:=Frm.left_bd C k
   refine⟨k,hk3,fun b=>⟨b0.e.i ρ,b1.e.i ρ,b2.e.i ρ,la.e.i ρ,?_⟩,fun b=>?_,fun N=>?_⟩
   ·simp only[SV.denL,SV.den,e0,e1,e2,c3,c4,c5]
   ·simp only[kI,SV.den,hl]
   ·simp only[kI,SV.ok,R.ok,hl];exact hb
  ·cases hp
 ·cases hp
theorem zeV {F:FuncId} (J:FsJ C bad words ρ) (hc:∀(b:Nat->Int) (o:Nat->Bool) (last:Int) (w:World),Calls Tryz.prog F #[.agg #[.int .i64 (b 0),.int .i64 (b 1),.int .i64 (b 2),.bool (o 0),.bool (o 1),.bool (o 2),.int .i64 last]] w fun e w'=>e= .returned (.int .i64 (jG o 3))/\Below w.heap.size w w'):HOK Tryz.prog ρ (zb F Yc):=by
 refine zo fun args gs v hp hg b base w N hok hm hbase=>?_
 obtain⟨k,hk,e1,e2,e3⟩:=zbL J hp
 obtain⟨b0,b1,b2,la,e1⟩:=e1 b
 rw[e1]
 refine(hc (fun j=>if j=0 then b0 else if j=1 then b1 else b2) (C.on k) la w).mono ?_
 rintro e w' ⟨h1,h2⟩
 exact⟨by rw[h1,e2];rfl,e3 N,h2⟩
theorem zgb (J:FsJ C bad words ρ):HOK Tryz.prog ρ (zb 75 Yc):=zeV J zef
theorem zgc (J:FsJ C bad words ρ):HOK Tryz.prog ρ (zb 29 Yc):=zeV J zih
end Go.Proofs.YtoakpnoajmngmaaGreatDoor.Sx
namespace Go.Proofs.YtoakpnoajmngmaaGreatDoor.Sx
open Go.RowKit
variable {C:Frm} {bad words:Int} {ρ:Env}
theorem WU {N:Nat->Nat} {q:Nat} (h:q∈qs N):q<8/\q/4<2/\q%4<N (q/4):=by
 unfold qs at h
 simp only[List.mem_filter,List.mem_range,decide_eq_true_eq]at h
 exact⟨h.1,by omega,h.2⟩
theorem FsJ.act (J:FsJ C bad words ρ) {k:Nat} (hk:k<2):∃a b c d,ziE k=[a,b,c,d]/\a.i ρ=C.ax k 5/\b.i ρ=C.ax k 6/\c.i ρ=C.ax k 7/\d.i ρ=C.ax k 10:=
 ⟨_,_,_,_,rfl,J.x hk (by omega),J.x hk (by omega),J.x hk (by omega),J.x hk (by omega)⟩
theorem FsJ.wt (J:FsJ C bad words ρ) {q:Nat} (hq:q<8):(wtE (q/4) (q%4) 0).i ρ=(C.wt (q/4) (q%4)).1/\(wtE (q/4) (q%4) 1).i ρ=(C.wt (q/4) (q%4)).2.1/\(wtE (q/4) (q%4) 2).b ρ=(C.wt (q/4) (q%4)).2.2/\(plE (q/4) (q%4)).i ρ=C.pl (q/4) (q%4):=by
 obtain rfl|rfl|rfl|rfl|rfl|rfl|rfl|rfl:q=0\/q=1\/q=2\/q=3\/q=4\/q=5\/q=6\/q=7:=by omega
 all_goals exact⟨J.k rfl,J.k rfl,J.kb rfl,J.k rfl⟩
theorem FsJ.own (J:FsJ C bad words ρ) {q:Nat} (hq:q<8):(zbX (16+q) 3).b ρ=C.there (16+q) 3/\(XF (16+q) 3).i ρ=C.data (16+q) 3:=by
 obtain rfl|rfl|rfl|rfl|rfl|rfl|rfl|rfl:q=0\/q=1\/q=2\/q=3\/q=4\/q=5\/q=6\/q=7:=by omega
 all_goals exact⟨J.kb rfl,J.k rfl⟩
theorem FsJ.sv (J:FsJ C bad words ρ) {k j:Nat}:(E.ap (1400+100*k) (.cons (nE j) .nil)).i ρ=(C.G (4+k)).fi j 0/\(E.ap (1401+100*k) (.cons (nE j) .nil)).i ρ=(C.G (4+k)).fi j 1/\(E.ap (1402+100*k) (.cons (nE j) .nil)).b ρ=(C.G (4+k)).fb j 2:=by
 have hf:=J.j.std.fn
 have hb:=J.j.std.fb
 refine⟨?_,?_,?_⟩
 ·show ρ.fn (1400+100*k) [(j:Int)]=_
  rw[hf]
  simp only
  rw[if_pos (by omega),show(1400+100*k-1000)/100=4+k by omega,show(1400+100*k)%100=0 by omega]
  rfl
 ·show ρ.fn (1401+100*k) [(j:Int)]=_
  rw[hf]
  simp only
  rw[if_pos (by omega),show(1401+100*k-1000)/100=4+k by omega,show(1401+100*k)%100=1 by omega]
  rfl
 ·show ρ.fb (1402+100*k) [(j:Int)]=_
  rw[hb]
  simp only
  rw[if_pos (by omega),show(1402+100*k-1000)/100=4+k by omega,show(1402+100*k)%100=2 by omega]
  rfl
theorem zqj (q:Nat):4*(q/4)+q%4=q:=by omega
theorem WV {F:FuncId} {mk:SV->SV} (J:FsJ C bad words ρ) (h:C.Good) (mv:Value->Value) (hmk:∀v b,(mk v).den ρ b=mv (v.den ρ b)) (hmo:∀v N,v.ok ρ N->(mk v).ok ρ N)
  (hc:∀(t r s c i b x:Int) (o th:Bool) (w:World),zj t r s c i b o=0->Calls Tryz.prog F #[.agg #[.int .i64 t,.int .i64 r,.int .i64 s,.int .i64 c],.agg #[.int .i64 i,.int .i64 b,.bool o],.agg #[.bool th,.int .i64 x]] w fun e w'=>e= .returned (mv (.agg #[.int .i64 (zbp s c i b o th x).1,.int .i64 (zbp s c i b o th x).2.1,.bool (zbp s c i b o th x).2.2]))/\Below w.heap.size w w'):HOK Tryz.prog ρ (zb F (Zk C.N mk)):=by
 refine zo fun args gs v hp hg b base w N hok hm hbase=>?_
 unfold Zk at hp
 split at hp
 ·rename_i t r s c i bb o th x
  split at hp
  ·rename_i q hk
   cases hp
   obtain⟨hmm,hE⟩:=qv hk
   obtain⟨hq,hk2,hj⟩:=WU hmm
   obtain⟨a0,a1,a2,a3,hact,r0,r1,r2,r3⟩:=J.act hk2
   obtain⟨s0,s1,s2⟩:=J.sv (k:=q/4) (j:=q%4)
   obtain⟨t0,t1⟩:=J.own hq
   obtain⟨w0,w1,w2,_⟩:=J.wt hq
   unfold ze6 svE at hE
   rw[hact]at hE
   simp only[List.cons_append,List.nil_append,List.cons.injEq,and_true]at hE
   obtain⟨e0,e1,e2,e3,e4,e5,e6,e7,e8⟩:=hE
   have hd:(SV.denL ρ b [.agg [.int .i64 t,.int .i64 r,.int .i64 s,.int .i64 c],.agg [.int .i64 i,.int .i64 bb,.bool o],.agg [.bool th,.int .i64 x]]).toArray=#[.agg #[.int .i64 (C.ax (q/4) 5),.int .i64 (C.ax (q/4) 6),.int .i64 (C.ax (q/4) 7),.int .i64 (C.ax (q/4) 10)],.agg #[.int .i64 ((C.G (4+q/4)).fi (q%4) 0),.int .i64 ((C.G (4+q/4)).fi (q%4) 1),.bool ((C.G (4+q/4)).fb (q%4) 2)],.agg #[.bool (C.there (16+q) 3),.int .i64 (C.data (16+q) 3)]]:=by
    simp only[SV.denL,SV.den,e0,e1,e2,e3,e4,e5,e6,e7,e8,r0,r1,r2,r3,s0,s1,s2,t0,t1]
   rw[hd]
   have hw:C.wt (q/4) (q%4)=zbp (C.ax (q/4) 7) (C.ax (q/4) 10) ((C.G (4+q/4)).fi (q%4) 0) ((C.G (4+q/4)).fi (q%4) 1) ((C.G (4+q/4)).fb (q%4) 2) (C.there (16+q) 3) (C.data (16+q) 3):=by
    unfold Frm.wt;rw[zqj]
   obtain⟨b1,b2,b3,b4⟩:=Frm.wt_bd h hk2 hj
   refine(hc _ _ _ _ _ _ _ _ _ w (h.servo _ _ hk2 hj)).mono ?_
   rintro e w' ⟨h1,h2⟩
   refine⟨?_,hmo _ _ ?_,h2⟩
   ·rw[h1,hmk,<-hw]
    simp only[SV.den,SV.denL,w0,w1,w2]
   ·simp only[SV.ok,SV.okL,R.ok,w0,w1,and_true]
    exact⟨⟨b1,b2⟩,b3,b4⟩
  ·cases hp
 ·cases hp
theorem zbM (J:FsJ C bad words ρ) (h:C.Good):HOK Tryz.prog ρ (zb 76 (Zk C.N okT)):=
 WV J h (fun v=> .tuple #[v,.nilIface]) (fun v b=>by simp[okT,SV.den,SV.denL]) (fun v N hv=>⟨hv,trivial,trivial⟩) fun t r s c i b x o th w hs=>(YN t r s c i b x o th _ _ _ w hs rfl)
theorem zbN (J:FsJ C bad words ρ) (h:C.Good):HOK Tryz.prog ρ (zb 30 (Zk C.N id)):=
 WV J h id (fun v b=>rfl) (fun v N hv=>hv) fun t r s c i b x o th w hs=>(QY t r s c i b x o th _ _ _ w hs rfl).mono fun e w' hh=>⟨hh.1,by obtain⟨_,rfl⟩:=hh;(exact gW)⟩
theorem FsJ.sound (J:FsJ C bad words ρ) {k:Nat} (hk:k<2):∀n,n<=4->(qR k n).i ρ=C.sound k n:=by
 have hwt:∀j,j<4->(wtE k j 2).b ρ=(C.wt k j).2.2:=fun j hj=>by
  have:=(J.wt (q:=4*k+j) (by omega)).2.2.1
  rwa[show(4*k+j)/4=k by omega,show(4*k+j)%4=j by omega]at this
 have hone:(qR k 1).i ρ=C.sound k 1:=by
  have:=hwt 0 (by omega)
  simp only[qR,E.i,E.b,this,Frm.sound]
  cases(C.wt k 0).2.2<;>rfl
 have hbig:(qR k 1).big ziK=false:=by
  obtain rfl|rfl:k=0\/k=1:=by omega
  all_goals rfl
 have hstep:∀n,1<=n->n<4->(qR k n).i ρ=C.sound k n->(nmE (qR k n)).i ρ=(qR k n).i ρ->(qR k (n+1)).i ρ=C.sound k (n+1):=by
  intro n h1 h4 hs hn
  obtain⟨m,rfl⟩:∃m,n=m+1:=⟨n-1,by omega⟩
  have:=hwt (m+1) (by omega)
  show(E.ite (.un .not (wtE k (m+1) 2)) (.bin .add (nmE (qR k (m+1))) (.c 1)) (qR k (m+1))).i ρ=_
  simp only[E.i,E.b,this,hn,hs]
  rw[show C.sound k (m+1+1)=(if(C.wt k (m+1)).2.2=false then C.sound k (m+1)+1 else C.sound k (m+1))from rfl]
  cases(C.wt k (m+1)).2.2<;>rfl
 have h2:=hstep 1 (by omega) (by omega) hone (by unfold nmE;rw[hbig];rfl)
 have m2:(nmE (qR k 2)).i ρ=(qR k 2).i ρ:=J.name (by(obtain rfl|rfl:k=0\/k=1:=by omega)<;>simp[j9])
 have h3:=hstep 2 (by omega) (by omega) h2 m2
 have m3:(nmE (qR k 3)).i ρ=(qR k 3).i ρ:=J.name (by(obtain rfl|rfl:k=0\/k=1:=by omega)<;>simp[j9])
 have h4:=hstep 3 (by omega) (by omega) h3 m3
 intro n hn
 obtain rfl|rfl|rfl|rfl|rfl:n=0\/n=1\/n=2\/n=3\/n=4:=by omega
 ·rfl
 ·exact hone
 ·exact h2
 ·exact h3
 ·exact h4
theorem zgd {F:FuncId} {ck:Bool} (J:FsJ C bad words ρ) (h:C.Good) (hc:∀(ch so su:Int) (w:World),j8 ch so su=0->Calls Tryz.prog F #[.agg #[.int .i64 ch,.int .i64 so,.int .i64 su]] w fun e w'=>e= .returned (if ck=true then .nilIface else .int .i64 (xV ch so su))/\Below w.heap.size w w'):HOK Tryz.prog ρ (zb F (vB C.N ck)):=by
 refine zo fun args gs v hp hg b base w N hok hm hbase=>?_
 unfold vB at hp
 split at hp
 ·rename_i ch so su
  split at hp
  ·rename_i k hk
   cases hp
   obtain⟨hmm,hE⟩:=qv hk
   have hk2:k<2:=by simp at hmm;omega
   obtain⟨n1,n2⟩:=h.n k hk2
   unfold W9 at hE
   simp only[List.cons.injEq,and_true]at hE
   obtain⟨e0,e1,e2⟩:=hE
   have hl:(kE (230+k)).i ρ=C.left k:=by
    obtain rfl|rfl:k=0\/k=1:=by omega
    all_goals exact J.k rfl
   have hs:=J.sound hk2 (C.N k) n2
   have hw:(kE (270+k)).i ρ=C.lw k:=by
    obtain rfl|rfl:k=0\/k=1:=by omega
    all_goals exact J.k rfl
   have hd:(SV.denL ρ b [.agg [.int .i64 ch,.int .i64 so,.int .i64 su]]).toArray=#[.agg #[.int .i64 (C.left k),.int .i64 (C.sound k (C.N k)),.int .i64 (C.N k)]]:=by
    simp only[SV.denL,SV.den,e0,e1,e2,hl,hs,nE,E.i]
   rw[hd]
   refine(hc _ _ _ w (Frm.health h hk2)).mono ?_
   rintro e w' ⟨h1,h2⟩
   cases ck
   ·refine⟨by rw[h1];simp only[Bool.false_eq_true,if_false,kI,SV.den,hw];rfl,?_,h2⟩
    have:=Frm.lw_bd C k
    simp only[Bool.false_eq_true,if_false,kI,SV.ok,R.ok,hw]
    exact this
   ·exact⟨by rw[h1];rfl,trivial,h2⟩
  ·cases hp
 ·cases hp
theorem zkP (J:FsJ C bad words ρ) (h:C.Good):HOK Tryz.prog ρ (zb 78 (vB C.N false)):=
 zgd J h fun ch so su w hh=>(znN ch so su w hh).mono fun e w' x=>⟨x.1,by obtain⟨_,rfl⟩:=x;(exact gW)⟩
theorem zkQ (J:FsJ C bad words ρ) (h:C.Good):HOK Tryz.prog ρ (zb 32 (vB C.N false)):=
 zgd J h fun ch so su w hh=>(zbU ch so su w hh).mono fun e w' x=>⟨x.1,by obtain⟨_,rfl⟩:=x;(exact gW)⟩
theorem zbO (J:FsJ C bad words ρ) (h:C.Good):HOK Tryz.prog ρ (zb 77 (vB C.N true)):=
 zgd J h fun ch so su w hh=>(zbT ch so su w).mono fun e w' x=>⟨by rw[x.1,hh];rfl,by obtain⟨_,rfl⟩:=x;(exact gW)⟩
end Go.Proofs.YtoakpnoajmngmaaGreatDoor.Sx
namespace Go.Proofs.YtoakpnoajmngmaaGreatDoor.Sx
open Go.RowKit
variable {C:Frm} {bad words:Int} {ρ:Env}
structure FsK2 (C:Frm) (ρ:Env) (k:Nat):Prop where
 sum:(kE (280+k)).i ρ=C.sum k
 sum2:(kE (282+k)).i ρ=C.sum2 k
 wn0:(kE (290+3*k)).i ρ=(C.wn k).1
 wn1:(kE (291+3*k)).i ρ=(C.wn k).2.1
 wn2:(kE (292+3*k)).i ρ=(C.wn k).2.2
 dn:(kE (300+2*k)).i ρ=C.dn k
 up:(kE (301+2*k)).i ρ=C.up k
 prev:(kE (310+k)).i ρ=C.prev k
 stick:(kE (312+k)).i ρ=C.stick k
 c1:(kE (314+k)).i ρ=zm (C.wn k).1 (C.dn k) (C.up k)
 c2:(kE (316+k)).i ρ=zm (C.wn k).1 (C.prev k-C.rate k) (C.prev k+C.rate k)
 told:(kE (330+k)).i ρ=C.told k
 stk:(XF (32+k) 3).i ρ=C.data (32+k) 3
theorem FsJ.k2 (J:FsJ C bad words ρ) {k:Nat} (hk:k<2):FsK2 C ρ k:=by
 obtain rfl|rfl:k=0\/k=1:=by omega
 all_goals exact⟨J.k rfl,J.k rfl,J.k rfl,J.k rfl,J.k rfl,J.k rfl,J.k rfl,J.k rfl,J.k rfl,J.k rfl,J.k rfl,J.k rfl,J.k rfl⟩
theorem zm9 {C:Frm} (h:C.Good) {k:Nat} (hk:k<2): -C.most k<=C.dn k/\C.dn k<=C.up k/\C.up k<=C.most k:=by
 obtain⟨m1,m2,m3,m4⟩:=Frm.most_is h hk
 obtain⟨p1,p2⟩:=Frm.prev_bd h hk
 have hin:=gH (lo:=C.ax k 0) (hi:=C.ax k 1) (noise:=C.ax k 2) (push:=C.ax k 3+C.ax k 7) (most:=C.most k) (rate:=C.rate k) (x:=C.vv k) (prev:=C.prev k) m3 m1 p1 p2
 have hg:=h.guard k hk
 have hw:2*(C.ax k 2+zE (C.ax k 3+C.ax k 7) (C.rate k) (C.most k))<=C.ax k 1-C.ax k 0:=by
  unfold zs at hg
  split at hg
  ·omega
  ·split at hg
   ·omega
   ·rename_i hc;omega
 have hle:=G9 (lo:=C.ax k 0) (hi:=C.ax k 1) (noise:=C.ax k 2) (push:=C.ax k 3+C.ax k 7) (most:=C.most k) (rate:=C.rate k) (x:=C.vv k) (prev:=C.prev k) m3 m1 p1 p2 hw
 have q1: -C.most k<=Zd (C.most k) (C.rate k) (C.prev k):=by unfold Zd;omega
 have q2:Ze (C.most k) (C.rate k) (C.prev k)<=C.most k:=by unfold Ze;omega
 unfold Frm.dn Frm.up
 omega
theorem FsJ.guarded (J:FsJ C bad words ρ):kO.b ρ=decide (C.law'<=1):=by
 unfold kO
 simp only[E.b,J.law,E.i]
theorem zkR {C:Frm} (h:C.Good) {k:Nat} (hk:k<2): -10000<=C.tg k/\C.tg k<=10000:=by
 obtain⟨m1,m2,m3,m4⟩:=Frm.most_is h hk
 obtain⟨p1,p2⟩:=Frm.prev_bd h hk
 obtain⟨d1,d2,d3⟩:=zm9 h hk
 unfold Frm.tg
 split
 ·have:=qQ (C.wn k).1 d2;omega
 ·have:=qQ (C.wn k).1 (show C.prev k-C.rate k<=C.prev k+C.rate k by omega);omega
theorem FsJ.toE (J:FsJ C bad words ρ) {k:Nat} (hk:k<2):(toE k).i ρ=C.tg k:=by
 have K:=J.k2 hk
 unfold Sx.toE Frm.tg
 simp only[E.i,J.guarded,K.c1,K.c2,decide_eq_true_eq]
theorem FsJ.toP (J:FsJ C bad words ρ) (h:C.Good) {k:Nat} (hk:k<2):(Sx.toP k).i ρ=C.tg k:=by
 have K:=J.k2 hk
 have hn:(Sx.toP k).i ρ=(zla k).i ρ:=J.name (e:=zla k) (by(obtain rfl|rfl:k=0\/k=1:=by omega)<;>simp[j9])
 rw[hn]
 have hl:=(Frm.law_bd h).1
 unfold zla Frm.tg
 simp only[E.i,E.b,J.law,K.c1,K.c2,Bool.or_eq_true,decide_eq_true_eq]
 by_cases hc:C.law'<=1
 ·rw[if_pos hc,if_pos (by omega)]
 ·rw[if_neg hc,if_neg (by omega)]
theorem zbP (J:FsJ C bad words ρ) (h:C.Good) {q:Nat} (hq:q<10):∃a b c,zk4 C.N q=[a,b,c]/\b.i ρ<=c.i ρ/\(∀bd,(zgr q).den ρ bd= .int .i64 (zm (a.i ρ) (b.i ρ) (c.i ρ)))/\∀N,(zgr q).ok ρ N:=by
 have s0:∀k,k<2->∃a b c,[kE (280+k),ze5 (JC k (C.N k)),JC k (C.N k)]=[a,b,c]/\b.i ρ<=c.i ρ/\(∀bd,(kI (310+k) (-3000) 3000).den ρ bd= .int .i64 (zm (a.i ρ) (b.i ρ) (c.i ρ)))/\∀N,(kI (310+k) (-3000) 3000).ok ρ N:=by
  intro k hk
  have K:=J.k2 hk
  obtain⟨m1,m2,m3,m4⟩:=Frm.most_is h hk
  obtain⟨p1,p2⟩:=Frm.prev_bd h hk
  have hm:=J.most h hk
  have hn:(ze5 (JC k (C.N k))).i ρ= -C.most k:=by unfold ze5;simp only[E.i,hm];omega
  refine⟨_,_,_,rfl,by rw[hn,hm];omega,fun bd=>?_,fun N=>?_⟩
  ·rw[hn,hm,K.sum];simp only[kI,SV.den,K.prev];rfl
  ·simp only[kI,SV.ok,R.ok,K.prev];omega
 have s1:∀k,k<2->∃a b c,[XF (32+k) 3,E.c (-100),E.c 100]=[a,b,c]/\b.i ρ<=c.i ρ/\(∀bd,(kI (312+k) (-100) 100).den ρ bd= .int .i64 (zm (a.i ρ) (b.i ρ) (c.i ρ)))/\∀N,(kI (312+k) (-100) 100).ok ρ N:=by
  intro k hk
  have K:=J.k2 hk
  have hs:=Frm.stick_bd C k
  refine⟨_,_,_,rfl,by simp only[E.i];omega,fun bd=>?_,fun N=>?_⟩
  ·rw[K.stk];simp only[kI,SV.den,K.stick,E.i];rfl
  ·simp only[kI,SV.ok,R.ok,K.stick];exact hs
 have s2:∀k,k<2->∃a b c,[kE (290+3*k),kE (300+2*k),kE (301+2*k)]=[a,b,c]/\b.i ρ<=c.i ρ/\(∀bd,(kI (314+k) (-10000) 10000).den ρ bd= .int .i64 (zm (a.i ρ) (b.i ρ) (c.i ρ)))/\∀N,(kI (314+k) (-10000) 10000).ok ρ N:=by
  intro k hk
  have K:=J.k2 hk
  obtain⟨m1,m2,m3,m4⟩:=Frm.most_is h hk
  obtain⟨d1,d2,d3⟩:=zm9 h hk
  have hb:=qQ (C.wn k).1 d2
  refine⟨_,_,_,rfl,by rw[K.dn,K.up];exact d2,fun bd=>?_,fun N=>?_⟩
  ·rw[K.wn0,K.dn,K.up];simp only[kI,SV.den,K.c1]
  ·simp only[kI,SV.ok,R.ok,K.c1];omega
 have s3:∀k,k<2->∃a b c,[kE (290+3*k),loE k (C.N k),hiE k (C.N k)]=[a,b,c]/\b.i ρ<=c.i ρ/\(∀bd,(kI (316+k) (-10000) 10000).den ρ bd= .int .i64 (zm (a.i ρ) (b.i ρ) (c.i ρ)))/\∀N,(kI (316+k) (-10000) 10000).ok ρ N:=by
  intro k hk
  have K:=J.k2 hk
  obtain⟨m1,m2,m3,m4⟩:=Frm.most_is h hk
  obtain⟨p1,p2⟩:=Frm.prev_bd h hk
  have hr:=J.rate h hk
  have hl:(loE k (C.N k)).i ρ=C.prev k-C.rate k:=by unfold loE;simp only[E.i,hr,K.prev]
  have hh:(hiE k (C.N k)).i ρ=C.prev k+C.rate k:=by unfold hiE;simp only[E.i,hr,K.prev]
  have hb:=qQ (C.wn k).1 (show C.prev k-C.rate k<=C.prev k+C.rate k by omega)
  refine⟨_,_,_,rfl,by rw[hl,hh];omega,fun bd=>?_,fun N=>?_⟩
  ·rw[K.wn0,hl,hh];simp only[kI,SV.den,K.c2]
  ·simp only[kI,SV.ok,R.ok,K.c2];omega
 have s4:∀k,k<2->∃a b c,[kE (290+3*k),nmE (zk8 C.N k),nmE (zk9 C.N k)]=[a,b,c]/\b.i ρ<=c.i ρ/\(∀bd,(SV.int .i64 ⟨toE k,-10000,10000⟩).den ρ bd= .int .i64 (zm (a.i ρ) (b.i ρ) (c.i ρ)))/\∀N,(SV.int .i64 ⟨toE k,-10000,10000⟩).ok ρ N:=by
  intro k hk
  have K:=J.k2 hk
  obtain⟨m1,m2,m3,m4⟩:=Frm.most_is h hk
  obtain⟨p1,p2⟩:=Frm.prev_bd h hk
  obtain⟨d1,d2,d3⟩:=zm9 h hk
  have hr:=J.rate h hk
  have hl:(nmE (zk8 C.N k)).i ρ=if C.law'<=1 then C.dn k else C.prev k-C.rate k:=by
   rw[J.name (by(obtain rfl|rfl:k=0\/k=1:=by omega)<;>simp[j9])]
   unfold zk8 loE
   simp only[E.i,J.guarded,K.dn,hr,K.prev,decide_eq_true_eq]
  have hh:(nmE (zk9 C.N k)).i ρ=if C.law'<=1 then C.up k else C.prev k+C.rate k:=by
   rw[J.name (by(obtain rfl|rfl:k=0\/k=1:=by omega)<;>simp[j9])]
   unfold zk9 hiE
   simp only[E.i,J.guarded,K.up,hr,K.prev,decide_eq_true_eq]
  have ht:=zkR h hk
  refine⟨_,_,_,rfl,by rw[hl,hh];split<;>omega,fun bd=>?_,fun N=>?_⟩
  ·rw[K.wn0,hl,hh]
   simp only[SV.den,J.toE hk]
   unfold Frm.tg
   split<;>rfl
  ·simp only[SV.ok,R.ok,J.toE hk];exact ht
 obtain rfl|rfl|rfl|rfl|rfl|rfl|rfl|rfl|rfl|rfl:q=0\/q=1\/q=2\/q=3\/q=4\/q=5\/q=6\/q=7\/q=8\/q=9:=by omega
 ·exact s0 0 (by omega)
 ·exact s0 1 (by omega)
 ·exact s1 0 (by omega)
 ·exact s1 1 (by omega)
 ·exact s2 0 (by omega)
 ·exact s2 1 (by omega)
 ·exact s3 0 (by omega)
 ·exact s3 1 (by omega)
 ·exact s4 0 (by omega)
 ·exact s4 1 (by omega)
theorem zeW {F:FuncId} (J:FsJ C bad words ρ) (h:C.Good) (hc:∀(x lo hi:Int) (w:World),lo<=hi->Calls Tryz.prog F #[.int .i64 x,.int .i64 lo,.int .i64 hi] w fun e w'=>e= .returned (.int .i64 (zm x lo hi))/\w=w'):HOK Tryz.prog ρ (zb F (Vk C.N)):=by
 refine zo fun args gs v hp hg b base w N hok hm hbase=>?_
 unfold Vk at hp
 split at hp
 ·rename_i x lo hi
  split at hp
  ·rename_i q hk
   cases hp
   obtain⟨hmm,hE⟩:=qv hk
   have hq:q<10:=by simp at hmm;omega
   obtain⟨e0,e1,e2,h1,h2,h3,h4⟩:=zbP J h hq
   rw[h1]at hE
   simp only[List.cons.injEq,and_true]at hE
   obtain⟨x0,x1,x2⟩:=hE
   have hd:(SV.denL ρ b [.int .i64 x,.int .i64 lo,.int .i64 hi]).toArray=#[.int .i64 (e0.i ρ),.int .i64 (e1.i ρ),.int .i64 (e2.i ρ)]:=by
    simp only[SV.denL,SV.den,x0,x1,x2]
   rw[hd]
   refine(hc _ _ _ w h2).mono ?_
   rintro e w' ⟨y1,rfl⟩
   exact⟨by rw[y1,h3],h4 N,Below.refl _ _⟩
  ·cases hp
 ·cases hp
theorem zge (J:FsJ C bad words ρ) (h:C.Good):HOK Tryz.prog ρ (zb 80 (Vk C.N)):=zeW J h fun x lo hi w _=>jP x lo hi _ w (fun _=>rfl)
theorem zgf (J:FsJ C bad words ρ) (h:C.Good):HOK Tryz.prog ρ (zb 65 (Vk C.N)):=zeW J h fun x lo hi w hle=>jq x lo hi _ w hle (fun _=>rfl)
theorem XA {F:FuncId} {mk:SV->SV} (J:FsJ C bad words ρ) (h:C.Good) (mv:Value->Value) (hmk:∀v b,(mk v).den ρ b=mv (v.den ρ b)) (hmo:∀v N,v.ok ρ N->(mk v).ok ρ N)
  (hc:∀(lo hi no pu mo ra x pr:Int) (w:World),por (zs lo hi no pu mo ra) (jC mo pr)=0->Calls Tryz.prog F #[.agg #[.int .i64 lo,.int .i64 hi,.int .i64 no,.int .i64 pu,.int .i64 mo,.int .i64 ra],.int .i64 x,.int .i64 pr] w fun e w'=>e= .returned (mv (.agg #[.int .i64 (pdn lo hi no pu mo ra x pr),.int .i64 (pup lo hi no pu mo ra x pr)]))/\Below w.heap.size w w'):HOK Tryz.prog ρ (zb F (gP C.N mk)):=by
 refine zo fun args gs v hp hg b base w N hok hm hbase=>?_
 unfold gP at hp
 split at hp
 ·rename_i lo hi no pu mo ra x pr
  split at hp
  ·rename_i k hk
   cases hp
   obtain⟨hmm,hE⟩:=qv hk
   have hk2:k<2:=by simp at hmm;omega
   have K:=J.k2 hk2
   obtain⟨_,_,hv6,_⟩:=J.vt (show k<3 by omega)
   obtain⟨m1,m2,m3,m4⟩:=Frm.most_is h hk2
   obtain⟨d1,d2,d3⟩:=zm9 h hk2
   have a0:=J.x hk2 (show 0<13 by omega)
   have a1:=J.x hk2 (show 1<13 by omega)
   have a2:=J.x hk2 (show 2<13 by omega)
   have a3:(zgp k).i ρ=C.ax k 3+C.ax k 7:=by unfold zgp;simp only[E.i,J.x hk2 (show 3<13 by omega),J.x hk2 (show 7<13 by omega)]
   have a4:=J.most h hk2
   have a5:=J.rate h hk2
   unfold Ma ze3 at hE
   simp only[List.cons_append,List.nil_append,List.cons.injEq,and_true]at hE
   obtain⟨e0,e1,e2,e3,e4,e5,e6,e7⟩:=hE
   have hd:(SV.denL ρ b [.agg [.int .i64 lo,.int .i64 hi,.int .i64 no,.int .i64 pu,.int .i64 mo,.int .i64 ra],.int .i64 x,.int .i64 pr]).toArray=#[.agg #[.int .i64 (C.ax k 0),.int .i64 (C.ax k 1),.int .i64 (C.ax k 2),.int .i64 (C.ax k 3+C.ax k 7),.int .i64 (C.most k),.int .i64 (C.rate k)],.int .i64 (C.vv k),.int .i64 (C.prev k)]:=by
    simp only[SV.denL,SV.den,e0,e1,e2,e3,e4,e5,e6,e7,a0,a1,a2,a3,a4,a5,hv6,K.prev]
   rw[hd]
   refine(hc _ _ _ _ _ _ _ _ w (Frm.ask0 h hk2)).mono ?_
   rintro e w' ⟨y1,y2⟩
   refine⟨?_,hmo _ _ ?_,y2⟩
   ·rw[y1,hmk];simp only[SV.den,SV.denL,kI,K.dn,K.up];rfl
   ·simp only[SV.ok,SV.okL,kI,R.ok,K.dn,K.up,and_true];omega
  ·cases hp
 ·cases hp
theorem WW (J:FsJ C bad words ρ) (h:C.Good):HOK Tryz.prog ρ (zb 114 (gP C.N okT)):=
 XA J h (fun v=> .tuple #[v,.nilIface]) (fun v b=>by simp[okT,SV.den,SV.denL]) (fun v N hv=>⟨hv,trivial,trivial⟩) fun lo hi no pu mo ra x pr w ha=>Q6 lo hi no pu mo ra x pr _ _ w ha (fun _=>rfl) (fun _=>rfl)
theorem WX (J:FsJ C bad words ρ) (h:C.Good):HOK Tryz.prog ρ (zb 68 (gP C.N id)):=
 XA J h id (fun v b=>rfl) (fun v N hv=>hv) fun lo hi no pu mo ra x pr w ha=>YQ lo hi no pu mo ra x pr _ _ w ha (fun _=>rfl) (fun _=>rfl)
theorem zgg (J:FsJ C bad words ρ) (h:C.Good):HOK Tryz.prog ρ (zb 86 (zgs C.N)):=by
 refine zo fun args gs v hp hg b base w N hok hm hbase=>?_
 unfold zgs at hp
 split at hp
 ·rename_i t r s c i bb o too
  split at hp
  ·rename_i q hk
   cases hp
   obtain⟨hmm,hE⟩:=qv hk
   obtain⟨hq,hk2,hj⟩:=WU hmm
   obtain⟨a0,a1,a2,a3,hact,r0,r1,r2,r3⟩:=J.act hk2
   obtain⟨w0,w1,w2,w3⟩:=J.wt hq
   unfold zk5 at hE
   rw[hact]at hE
   simp only[List.cons_append,List.nil_append,List.cons.injEq,and_true]at hE
   obtain⟨e0,e1,e2,e3,e4,e5,e6,e7⟩:=hE
   obtain⟨b1,b2,b3,b4⟩:=Frm.wt_bd h hk2 hj
   obtain⟨b5,b6⟩:=Frm.pl_bd h hk2 hj
   obtain⟨c1,c2⟩:=Frm.pl_reach h hk2 hj
   have hd:(SV.denL ρ b [.agg [.int .i64 t,.int .i64 r,.int .i64 s,.int .i64 c],.agg [.int .i64 i,.int .i64 bb,.bool o],.int .i64 too]).toArray=#[.agg #[.int .i64 (C.ax (q/4) 5),.int .i64 (C.ax (q/4) 6),.int .i64 (C.ax (q/4) 7),.int .i64 (C.ax (q/4) 10)],.agg #[.int .i64 (C.wt (q/4) (q%4)).1,.int .i64 (C.wt (q/4) (q%4)).2.1,.bool (C.wt (q/4) (q%4)).2.2],.int .i64 (C.pl (q/4) (q%4))]:=by
    simp only[SV.denL,SV.den,e0,e1,e2,e3,e4,e5,e6,e7,r0,r1,r2,r3,w0,w1,w2,w3]
   rw[hd]
   have hcl:zm (C.pl (q/4) (q%4)) (yb (C.ax (q/4) 5) (C.ax (q/4) 6) (C.wt (q/4) (q%4)).1 (C.wt (q/4) (q%4)).2.2).1 (yb (C.ax (q/4) 5) (C.ax (q/4) 6) (C.wt (q/4) (q%4)).1 (C.wt (q/4) (q%4)).2.2).2=C.pl (q/4) (q%4):=by
    unfold zm
    rw[if_neg (by omega),if_neg (by omega)]
   refine(VO _ _ _ _ _ _ _ _ _ w (Frm.wt_servo h hk2 hj) hcl).mono ?_
   rintro e w' ⟨y1,y2⟩
   refine⟨?_,?_,y2⟩
   ·rw[y1];simp only[SV.den,SV.denL,w1,w2,w3];rfl
   ·simp only[SV.ok,SV.okL,R.ok,w1,w3,and_true];omega
  ·cases hp
 ·cases hp
theorem zbQ (C:Frm) (bad:Int) {q:Nat} (hq:q<9):C.fnS bad (340+q)=C.word q:=by
 unfold Frm.fnS
 rw[if_neg (by omega),if_neg (by omega),if_neg (by omega),if_neg (by omega),if_neg (by omega),if_neg (by omega),if_neg (by omega),if_neg (by omega),if_neg (by omega),if_neg (by omega),if_neg (by omega),if_neg (by omega),if_neg (by omega),if_neg (by omega),if_pos (by omega),show 340+q-340=q by omega]
theorem zeX {F:FuncId} {mk:SV->SV} (J:FsJ C bad words ρ) (h:C.Good) (mv:Value->Value) (hmk:∀v b,(mk v).den ρ b=mv (v.den ρ b)) (hmo:∀v N,v.ok ρ N->(mk v).ok ρ N)
  (hc:∀(l s t:Nat) (d:Int) (w:World),l<256->s<4->t<4-> -262144<=d->d<=262143->Calls Tryz.prog F #[.agg #[.int .i64 l,.int .i64 s,.int .i64 t,.int .i64 d]] w fun e w'=>e= .returned (mv (.int .u32 (xO (qV l) s t (jm d):Nat)))/\Below w.heap.size w w'):HOK Tryz.prog ρ (zb F (Vm C.N mk)):=by
 refine zo fun args gs v hp hg b base w N hok hm hbase=>?_
 unfold Vm at hp
 split at hp
 ·rename_i l s t d
  split at hp
  ·rename_i q hk
   cases hp
   obtain⟨hmm,hE⟩:=qv hk
   have hkw:q<9->(kE (340+q)).i ρ=C.word q:=fun hq=>(J.k (Nat.ble_eq_true_of_le (by omega))).trans (zbQ C bad hq)
   have key:∃(L S T:Nat) (D:Int),l.e.i ρ=L/\s.e.i ρ=S/\t.e.i ρ=T/\d.e.i ρ=D/\L<256/\S<4/\T<4/\ -262144<=D/\D<=262143/\C.word q=xO (qV L) S T (jm D)/\(kE (340+q)).i ρ=C.word q:=by
    rcases List.mem_cons.1 hmm with rfl|hqq
    ·unfold zgt at hE
     simp only[if_true,List.cons.injEq,and_true]at hE
     obtain⟨e0,e1,e2,e3⟩:=hE
     have hl:=Frm.law_bd h
     refine⟨80,3,3,C.law',by rw[e0];rfl,by rw[e1];rfl,by rw[e2];rfl,by rw[e3];exact J.law,by omega,by omega,by omega,by omega,by omega,if_pos rfl,hkw (by omega)⟩
    ·obtain⟨hq,hk2,hj⟩:=WU hqq
     unfold zgt at hE
     rw[if_neg (by omega)]at hE
     simp only[List.cons.injEq,and_true]at hE
     obtain⟨e0,e1,e2,e3⟩:=hE
     obtain⟨_,_,w2,w3⟩:=J.wt hq
     obtain⟨b5,b6⟩:=Frm.pl_bd h hk2 hj
     refine⟨64+q,3,if(C.wt (q/4) (q%4)).2.2=true then 0 else 3,C.pl (q/4) (q%4),by rw[e0];simp[nE,E.i],by rw[e1];rfl,?_,by rw[e3];exact w3,by omega,by omega,by split<;>omega,by omega,by omega,?_,?_⟩
     ·rw[e2]
      unfold W8
      simp only[E.i,w2]
      split<;>rfl
     ·unfold Frm.word
      rw[if_neg (by omega)]
     ·exact hkw (by omega)
   obtain⟨L,S,T,D,x0,x1,x2,x3,l1,l2,l3,l4,l5,l6,l7⟩:=key
   have hd:(SV.denL ρ b [.agg [.int .i64 l,.int .i64 s,.int .i64 t,.int .i64 d]]).toArray=#[.agg #[.int .i64 L,.int .i64 S,.int .i64 T,.int .i64 D]]:=by
    simp only[SV.denL,SV.den,x0,x1,x2,x3]
   rw[hd]
   refine(hc L S T D w l1 l2 l3 l4 l5).mono ?_
   rintro e w' ⟨y1,y2⟩
   have hlt:=zdL (qV L) S T (jm D) (yL L) l2 l3 (gy D)
   refine⟨?_,hmo _ _ ?_,y2⟩
   ·rw[y1,hmk];simp only[SV.den,l7,l6]
   ·simp only[SV.ok,R.ok,l7,l6];omega
  ·cases hp
 ·cases hp
theorem zgh (J:FsJ C bad words ρ) (h:C.Good):HOK Tryz.prog ρ (zb 120 (Vm C.N okT)):=
 zeX J h (fun v=> .tuple #[v,.nilIface]) (fun v b=>by simp[okT,SV.den,SV.denL]) (fun v N hv=>⟨hv,trivial,trivial⟩) fun l s t d w h1 h2 h3 h4 h5=>zdK l s t d w h1 h2 h3 h4 h5
theorem zgi (J:FsJ C bad words ρ) (h:C.Good):HOK Tryz.prog ρ (zb 55 (Vm C.N id)):=
 zeX J h id (fun v b=>rfl) (fun v N hv=>hv) fun l s t d w h1 h2 h3 h4 h5=>ziw l s t d w h1 h2 h3 h4 h5
end Go.Proofs.YtoakpnoajmngmaaGreatDoor.Sx
namespace Go.Proofs.YtoakpnoajmngmaaGreatDoor.Sx
open Go.RowKit
variable {C:Frm} {bad words:Int} {ρ:Env}
structure FsG (C:Frm) (w:World):Prop where
 ok:∀k,(C.G k).ok w
 ks:∀k,k<4->(C.G k).ks=[true]
 sv:∀k,k=4\/k=5->(C.G k).ks=[true,true,false]
 n:∀k,k<4->(C.G k).n<=20
theorem wN (J:FsJ C bad words ρ) {k:Nat} {sh:List CK} {len:R} {N:Nat->Prop} (hok:(SV.osl k sh len).ok ρ N) (b:Bd):(SV.osl k sh len).den ρ b= .slice (C.G k).A (C.G k).n (C.G k).c:=J.j.std.slice hok
theorem zeY {F:FuncId} {tail:List SV} {w0:World} (J:FsJ C bad words ρ) (h:C.Good) (G:FsG C w0) (ht:∀N,SV.okL ρ N tail)
  (hc:∀(g d:GD) (lo hi tu bu mo aim held law st is sp al pr:Int) (w:World),WtG g d lo hi tu bu mo aim held law st is sp al pr->g.ok w->d.ok w->
   Calls Tryz.prog F #[.agg #[.int .i64 lo,.int .i64 hi,.int .i64 tu,.int .i64 bu,.int .i64 mo,.slice g.A g.n g.c,.slice d.A d.n d.c],.agg #[.int .i64 aim,.int .i64 held,.int .i64 law],.agg #[.int .i64 st,.int .i64 is,.int .i64 sp,.int .i64 al,.int .i64 pr]] w fun e w'=>e= .returned (.tuple (#[.int .i64 (vl lo hi tu mo (qa g.f d.f g.n sp) aim held law st is al pr).1,.agg #[.int .i64 (vl lo hi tu mo (qa g.f d.f g.n sp) aim held law st is al pr).2.1,.int .i64 (vl lo hi tu mo (qa g.f d.f g.n sp) aim held law st is al pr).2.2,.int .i64 al]]++(SV.denL ρ ⟨fun _=>0,fun _=>0,fun _=>0⟩ tail).toArray))/\Below w.heap.size w w')
  (htd:∀b b',SV.denL ρ b tail=SV.denL ρ b' tail):HOK Tryz.prog ρ (zb F (Vj C.N tail)):=by
 refine zo fun args gs v hp hg b base w N hok hm hbase=>?_
 unfold Vj at hp
 split at hp
 ·rename_i lo hi tu bu mo g glo ghi glen d dlo dhi dlen aim held law st is sp al pr
  split at hp
  ·rename_i k hk
   cases hp
   obtain⟨hmm,hE⟩:=qv hk
   have hk2:k<2:=by simp at hmm;omega
   have K:=J.k2 hk2
   obtain⟨m1,m2,m3,m4⟩:=Frm.most_is h hk2
   obtain⟨p1,p2⟩:=Frm.prev_bd h hk2
   obtain⟨q1,q2,q3,q4,q5,q6⟩:=h.held k hk2
   obtain⟨⟨r1,r2,r3⟩,r4,r5,r6,hpl⟩:=zr (h.hold k hk2)
   have hst:=Frm.stick_bd C k
   have hl:=Frm.law_bd h
   have hv1:=Frm.vv_bd h (show k<3 by omega)
   have hv2:=Frm.vv_bd h (show 2<3 by omega)
   obtain⟨_,_,v6,_⟩:=J.vt (show k<3 by omega)
   obtain⟨_,_,v62,_⟩:=J.vt (show 2<3 by omega)
   have a0:=J.x hk2 (show 0<13 by omega)
   have a1:=J.x hk2 (show 1<13 by omega)
   have a11:=J.x hk2 (show 11<13 by omega)
   have a12:=J.x hk2 (show 12<13 by omega)
   have a4:=J.most h hk2
   have hd0:(E.v (150+10*k)).i ρ=C.hd k 0/\(E.v (151+10*k)).i ρ=C.hd k 1/\(E.v (152+10*k)).i ρ=C.hd k 2:=by
    obtain rfl|rfl:k=0\/k=1:=by omega
    all_goals exact⟨J.v rfl,J.v rfl,J.v rfl⟩
   obtain⟨z0,z1,z2⟩:=hd0
   unfold zk3 zbY ze4 znc at hE
   simp only[List.cons_append,List.nil_append,List.cons.injEq,and_true]at hE
   obtain⟨e0,e1,e2,e3,e4,eg,ed,e5,e6,e7,e8,e9,e10,e11,e12⟩:=hE
   have hgk:g=2*k:=by unfold nE at eg;injection eg with eg;omega
   have hdk:d=2*k+1:=by unfold nE at ed;injection ed with ed;omega
   subst hgk hdk
   obtain⟨⟨_,_,_,_,_,og,od,_⟩,_⟩:=hok
   have g0:=wN J og b
   have d0:=wN J od b
   have hd:(SV.denL ρ b [.agg [.int .i64 lo,.int .i64 hi,.int .i64 tu,.int .i64 bu,.int .i64 mo,.osl (2*k) [.int .i64 glo ghi] glen,.osl (2*k+1) [.int .i64 dlo dhi] dlen],.agg [.int .i64 aim,.int .i64 held,.int .i64 law],.agg [.int .i64 st,.int .i64 is,.int .i64 sp,.int .i64 al,.int .i64 pr]]).toArray=#[.agg #[.int .i64 (C.ax k 0),.int .i64 (C.ax k 1),.int .i64 (C.ax k 11),.int .i64 (C.ax k 12),.int .i64 (C.most k),.slice (C.G (2*k)).A (C.G (2*k)).n (C.G (2*k)).c,.slice (C.G (2*k+1)).A (C.G (2*k+1)).n (C.G (2*k+1)).c],.agg #[.int .i64 (C.hd k 0),.int .i64 (C.hd k 1),.int .i64 (C.hd k 2)],.agg #[.int .i64 (C.stick k),.int .i64 (C.vv k),.int .i64 (C.vv 2),.int .i64 C.law',.int .i64 (C.prev k)]]:=by
    rw[show(SV.denL ρ b [.agg [.int .i64 lo,.int .i64 hi,.int .i64 tu,.int .i64 bu,.int .i64 mo,.osl (2*k) [.int .i64 glo ghi] glen,.osl (2*k+1) [.int .i64 dlo dhi] dlen],.agg [.int .i64 aim,.int .i64 held,.int .i64 law],.agg [.int .i64 st,.int .i64 is,.int .i64 sp,.int .i64 al,.int .i64 pr]]).toArray=#[.agg #[.int .i64 (lo.e.i ρ),.int .i64 (hi.e.i ρ),.int .i64 (tu.e.i ρ),.int .i64 (bu.e.i ρ),.int .i64 (mo.e.i ρ),(SV.osl (2*k) [.int .i64 glo ghi] glen).den ρ b,(SV.osl (2*k+1) [.int .i64 dlo dhi] dlen).den ρ b],.agg #[.int .i64 (aim.e.i ρ),.int .i64 (held.e.i ρ),.int .i64 (law.e.i ρ)],.agg #[.int .i64 (st.e.i ρ),.int .i64 (is.e.i ρ),.int .i64 (sp.e.i ρ),.int .i64 (al.e.i ρ),.int .i64 (pr.e.i ρ)]]from by simp only[SV.denL,zA,zh]]
    rw[g0,d0,e0,e1,e2,e3,e4,e5,e6,e7,e8,e9,e10,e11,e12,a0,a1,a11,a12,a4,z0,z1,z2,K.stick,v6,v62,J.law,K.prev]
   rw[hd]
   obtain⟨⟨w1,w2⟩,⟨w3,w4⟩,w5,w6⟩:=Frm.wn_bd h hk2
   have n1:=G.n (2*k) (by omega)
   have n2:=G.n (2*k+1) (by omega)
   refine(hc (C.G (2*k)) (C.G (2*k+1)) _ _ _ _ _ _ _ _ _ _ _ _ _ w ⟨G.ks _ (by omega),G.ks _ (by omega),n1,n2,h.hold k hk2,⟨q1,q2⟩,⟨q3,q4⟩,⟨q5,q6⟩,hst,hv1,hv2,hl,⟨p1,p2⟩,by omega,by omega⟩ (J.j.std.row G.ok hm hbase _) (J.j.std.row G.ok hm hbase _)).mono ?_
   rintro e w' ⟨y1,y2⟩
   refine⟨?_,?_,y2⟩
   ·rw[y1]
    rw[show SV.den ρ b (.tup ([kI (290+3*k) (-4000) 4000,.agg [kI (291+3*k) (-100000) 100000,kI (292+3*k) (-4000) 4000,.int .i64 ⟨XG,0,3⟩]]++tail))= .tuple (SV.denL ρ b (kI (290+3*k) (-4000) 4000:: .agg [kI (291+3*k) (-100000) 100000,kI (292+3*k) (-4000) 4000,.int .i64 ⟨XG,0,3⟩]::tail)).toArray from rfl]
    simp only[SV.denL,SV.den,kI,K.wn0,K.wn1,K.wn2,J.law]
    rw[htd b ⟨fun _=>0,fun _=>0,fun _=>0⟩]
    simp only[Frm.wn]
    simp
   ·simp only[List.cons_append,List.nil_append,SV.ok,SV.okL,kI,R.ok,K.wn0,K.wn1,K.wn2,J.law,and_true]
    exact⟨⟨w1,w2⟩,⟨⟨by omega,by omega⟩,⟨by omega,by omega⟩,hl⟩,ht N⟩
  ·cases hp
 ·cases hp
theorem zgj {w0:World} (J:FsJ C bad words ρ) (h:C.Good) (G:FsG C w0):HOK Tryz.prog ρ (zb 82 (Vj C.N [.nili])):=
 zeY J h G (fun N=>⟨trivial,trivial⟩) (fun g d lo hi tu bu mo aim held law st is sp al pr w T o1 o2=>ZG g d lo hi tu bu mo aim held law st is sp al pr T w o1 o2) (fun b b'=>rfl)
theorem zgk {w0:World} (J:FsJ C bad words ρ) (h:C.Good) (G:FsG C w0):HOK Tryz.prog ρ (zb 67 (Vj C.N [])):=
 zeY J h G (fun N=>trivial) (fun g d lo hi tu bu mo aim held law st is sp al pr w T o1 o2=>YY g d lo hi tu bu mo aim held law st is sp al pr T w o1 o2) (fun b b'=>rfl)
end Go.Proofs.YtoakpnoajmngmaaGreatDoor.Sx
namespace Go.Proofs.YtoakpnoajmngmaaGreatDoor.Sx
open Go.RowKit
variable {C:Frm} {bad words:Int} {ρ:Env}
theorem Jz {ρ:Env} {b:Bd}:∀(rows:List (E × E × E)) (cells:List SV),ziG cells=some (rows.flatMap fun x=>[x.1,x.2.1,x.2.2])->SV.denL ρ b cells=rows.flatMap fun x=>[.int .i64 (x.1.i ρ),.int .i64 (x.2.1.i ρ),.bool (x.2.2.b ρ)]
 |[],cells,h=>by
  match cells,h with
  |[],_=>rfl
  | .int .i64 a:: .int .i64 c:: .bool o::l,h=>simp[ziG]at h
 |r::rows,cells,h=>by
  match cells,h with
  |[],h=>simp[ziG]at h
  | .int .i64 a:: .int .i64 c:: .bool o::l,h=>
    simp only[ziG,List.flatMap_cons,List.cons_append,List.nil_append,Option.map_eq_some_iff,List.cons.injEq]at h
    obtain⟨m,h1,h2,h3,h4,rfl⟩:=h
    have ih:=Jz (b:=b) (ρ:=ρ) rows l h1
    simp only[SV.denL,SV.den,ih,List.flatMap_cons,List.cons_append,List.nil_append,h2,h3,h4]
theorem xU {α:Type} (f:Nat->List α) (hf:∀j,(f j).length=3):∀n,((List.range n).flatMap f).length=n*3:=by
 intro n
 induction n with
 |zero=>rfl
 |succ n ih=>rw[List.range_succ,List.flatMap_append,List.length_append,ih];simp[hf];omega
theorem WY {α:Type} (f:Nat->List α) (hf:∀j,(f j).length=3):∀n i c,i<n->c<3->((List.range n).flatMap f)[i*3+c]? =(f i)[c]? :=by
 intro n
 induction n with
 |zero=>intro i c h;omega
 |succ n ih=>
  intro i c hi hc
  rw[List.range_succ,List.flatMap_append]
  by_cases hn:i<n
  ·rw[List.getElem?_append_left (by rw[xU f hf];omega)]
   exact ih i c hn hc
  ·obtain rfl:i=n:=by omega
   rw[List.getElem?_append_right (by rw[xU f hf];omega),xU f hf,show i*3+c-i*3=c by omega]
   simp
theorem wO {f g:Nat->Int}:∀n,(∀i,i<n->f i=g i)->qg f n=qg g n:=by
 intro n
 induction n with
 |zero=>intro _;rfl
 |succ n ih=>intro h;simp only[qg];rw[ih (fun i hi=>h i (by omega)),h n (by omega)]
theorem WZ {b:Bd} {base:Nat->Prop} {w:World} {H:List (Nat × HEnt)} {N:Nat->Prop} (hH:HRel ρ b base w H N) {v:SV} {n:Nat} {e0 e1 e2:Nat->E} (hs:zbZ H v=some ((List.range n).flatMap fun j=>[e0 j,e1 j,e2 j])) (hn:n<=4) (h0:0<n)
  {fi:Nat->Nat->Int} {fb:Nat->Nat->Bool} (h1:∀j,j<n->(e0 j).i ρ=fi j 0/\(e1 j).i ρ=fi j 1/\(e2 j).b ρ=fb j 2) (hb:∀i j,B64 (fi i j)):
  ∃A c,v.den ρ b= .slice A n c/\(⟨A,c,n,[true,true,false],fi,fb⟩:GD).ok w:=by
 unfold zbZ at hs
 split at hs
 ·rename_i m len cap
  split at hs
  ·rename_i cells ty kd hf
   split at hs
   ·rename_i hl
    have hl:=of_decide_eq_true hl
    have hm:=Jz (ρ:=ρ) (b:=b) ((List.range n).map fun j=>(e0 j,e1 j,e2 j)) cells (by rw[hs,List.flatMap_map])
    rw[List.flatMap_map]at hm
    have hf3:∀j,([Value.int .i64 ((e0 j).i ρ),.int .i64 ((e1 j).i ρ),.bool ((e2 j).b ρ)]:List Value).length=3:=fun _=>rfl
    have hlen:cells.length=n*3:=by
     have:=congrArg List.length hm
     rw[zk,xU _ hf3]at this
     exact this
    obtain rfl:len=n:=by omega
    obtain⟨q1,q2,q3⟩:=hH.mem m _ hf (zq ρ)
    refine⟨_,_,rfl,⟨by show len<=_;omega,fun i j hi hj=>?_,hb⟩⟩
    have hj3:j<3:=hj
    have hi':i<len:=hi
    have hlt:i*3+j<cells.length:=by rw[hlen];omega
    obtain⟨u,hu⟩:∃u,cells[i*3+j]? =some u:=⟨_,List.getElem?_eq_getElem hlt⟩
    have hcell:=q2.cell hu
    have hlt2:b.β m<w.heap.size:=by
     cases hq:w.heap[b.β m]? with
     |none=>simp[World.cell?,hq]at hcell
     |some o=>exact(Array.getElem?_eq_some_iff.1 hq).1
    refine⟨b.β m,b.o m,rfl,hlt2,?_⟩
    show w.cell? ⟨b.β m,b.o m+(i*3+j),none⟩=_
    rw[hcell]
    have hv:(SV.denL ρ b cells)[i*3+j]? =some (u.den ρ b):=by rw[qm,hu];rfl
    rw[hm,WY _ hf3 len i j hi' hj3]at hv
    obtain⟨x0,x1,x2⟩:=h1 i hi'
    rw[<-hv]
    obtain rfl|rfl|rfl:j=0\/j=1\/j=2:=by omega
    ·simp[GD.val,x0]
    ·simp[GD.val,x1]
    ·simp[GD.val,x2]
   ·cases hs
  ·cases hs
 ·cases hs
theorem zkS (J:FsJ C bad words ρ) {k j:Nat} (hk:k<2) (hj:j<4):(wtE k j 0).i ρ=(C.wt k j).1/\(wtE k j 1).i ρ=(C.wt k j).2.1/\(wtE k j 2).b ρ=(C.wt k j).2.2/\(plE k j).i ρ=C.pl k j:=by
 have:=J.wt (q:=4*k+j) (by omega)
 rwa[show(4*k+j)/4=k by omega,show(4*k+j)%4=j by omega]at this
def zbn (C:Frm) (k j i:Nat):Int:=if j<C.N k then(if i=0 then C.pl k j else(C.wt k j).2.1)else 0
theorem XB (h:C.Good) {k:Nat} (hk:k<2) (i j:Nat):B64 ((C.seen k).fi i j):=by
 show B64 (if i<C.N k then(if j=0 then(C.wt k i).1 else(C.wt k i).2.1)else 0)
 unfold B64
 split
 ·rename_i hi
  have:=Frm.wt_bd h hk hi
  split<;>omega
 ·omega
theorem zgl (h:C.Good) {k:Nat} (hk:k<2) (i j:Nat):B64 (zbn C k i j):=by
 unfold zbn B64
 split
 ·rename_i hi
  have:=Frm.wt_bd h hk hi
  have:=Frm.pl_bd h hk hi
  split<;>omega
 ·omega
theorem zkT {F:FuncId} (J:FsJ C bad words ρ) (h:C.Good) (hc:∀(g:GD) (w:World),g.ks=[true,true,false]->0<g.n->g.n<=4->(∀i,i<g.n-> -1000<=g.fi i 0/\g.fi i 0<=1000)->g.ok w->Calls Tryz.prog F #[.slice g.A g.n g.c] w fun e w'=>e= .returned (.int .i64 (qg (fun i=>g.fi i 0) g.n))/\Below w.heap.size w w'):HOK Tryz.prog ρ (jn F (ziH C.N)):=by
 refine yM fun args H gs v hp hg b base w N hH hok hm hbase=>?_
 unfold ziH at hp
 split at hp
 ·rename_i s
  split at hp
  ·rename_i l hl
   split at hp
   ·rename_i q hk
    cases hp
    obtain⟨hmm,hE⟩:=qv hk
    have hq4:q<4:=by simp at hmm;omega
    subst hE
    unfold zpy at hl
    by_cases hq:q<2
    ·rw[if_pos hq]at hl
     obtain⟨n1,n2⟩:=h.n q hq
     obtain⟨A,c,e1,o⟩:=WZ hH (e0:=fun j=>wtE q j 0) (e1:=fun j=>wtE q j 1) (e2:=fun j=>wtE q j 2) hl n2 (by omega) (fi:=(C.seen q).fi) (fb:=(C.seen q).fb) (fun j hj=>by
      obtain⟨x0,x1,x2,_⟩:=zkS J hq (show j<4 by omega)
      exact⟨x0.trans (Frm.seen_fi hj).1.symm,x1.trans (Frm.seen_fi hj).2.symm,x2⟩) (XB h hq)
     have hd:(SV.denL ρ b [s]).toArray=#[.slice A (C.N q) c]:=by simp only[SV.denL,e1]
     rw[hd]
     refine(hc ⟨A,c,C.N q,[true,true,false],(C.seen q).fi,(C.seen q).fb⟩ w rfl (by show 0<C.N q;omega) n2 (fun i hi=>by rw[show(⟨A,c,C.N q,[true,true,false],(C.seen q).fi,(C.seen q).fb⟩:GD).fi i 0=(C.wt q i).1 from(Frm.seen_fi hi).1];exact⟨(Frm.wt_bd h hq hi).1,(Frm.wt_bd h hq hi).2.1⟩) o).mono ?_
     rintro e w' ⟨y1,y2⟩
     have hv:(kE (280+q)).i ρ=C.sum q:=(J.k2 hq).sum
     have hb:=Frm.sum_bd h hq
     refine⟨?_,?_,y2⟩
     ·rw[y1]
      simp only[kI,SV.den,hv]
      exact congrArg (fun z=>Ending.returned (.int .i64 z)) (wO (C.N q) (fun i hi=>(Frm.seen_fi hi).1))
     ·simp only[kI,SV.ok,R.ok,hv];exact hb
    ·rw[if_neg hq]at hl
     obtain⟨k,rfl⟩:∃k,q=k+2:=⟨q-2,by omega⟩
     have hk2:k<2:=by omega
     obtain⟨n1,n2⟩:=h.n k hk2
     rw[show k+2-2=k by omega]at hl
     obtain⟨A,c,e1,o⟩:=WZ hH (e0:=fun j=>plE k j) (e1:=fun j=>wtE k j 1) (e2:=fun j=>wtE k j 2) hl n2 (by omega) (fi:=zbn C k) (fb:=(C.seen k).fb) (fun j hj=>by
      obtain⟨x0,x1,x2,x3⟩:=zkS J hk2 (show j<4 by omega)
      exact⟨x3.trans (by unfold zbn;rw[if_pos hj];rfl),x1.trans (by unfold zbn;rw[if_pos hj];rfl),x2⟩) (zgl h hk2)
     have hd:(SV.denL ρ b [s]).toArray=#[.slice A (C.N k) c]:=by simp only[SV.denL,e1]
     rw[hd]
     have hg0:∀i,i<C.N k->zbn C k i 0=C.pl k i:=fun i hi=>by unfold zbn;rw[if_pos hi];rfl
     refine(hc ⟨A,c,C.N k,[true,true,false],zbn C k,(C.seen k).fb⟩ w rfl (by show 0<C.N k;omega) n2 (fun i hi=>by show -1000<=zbn C k i 0/\zbn C k i 0<=1000;rw[hg0 i hi];exact Frm.pl_bd h hk2 hi) o).mono ?_
     rintro e w' ⟨y1,y2⟩
     have hv:(kE (280+(k+2))).i ρ=C.sum2 k:=by
      rw[show 280+(k+2)=282+k by omega]
      exact(J.k2 hk2).sum2
     have hb:=Frm.sum2_bd h hk2
     refine⟨?_,?_,y2⟩
     ·rw[y1]
      simp only[kI,SV.den,hv]
      exact congrArg (fun z=>Ending.returned (.int .i64 z)) (wO (C.N k) hg0)
     ·simp only[kI,SV.ok,R.ok,hv];exact hb
   ·cases hp
  ·cases hp
 ·cases hp
theorem zkU (J:FsJ C bad words ρ) (h:C.Good):HOK Tryz.prog ρ (jn 81 (ziH C.N)):=zkT J h fun g w k a b c o=>zpp g k a b c w o
theorem zkV (J:FsJ C bad words ρ) (h:C.Good):HOK Tryz.prog ρ (jn 66 (ziH C.N)):=zkT J h fun g w k a b c o=>zet g k a b c w o
section
variable (g:GD) (A:Option Addr) (cp:Nat) (t r:Int)
theorem zkW (s c:Int) (n:Nat):∀k,psm ⟨A,cp,g.n,g.ks,g.fi,g.fb⟩ t r s c n k=psm g t r s c n k:=by
 intro k
 induction k with
 |zero=>rfl
 |succ k ih=>simp only[psm,ih]
theorem Z3 (x:Int):∀k,q8 ⟨A,cp,g.n,g.ks,g.fi,g.fb⟩ t r x k=q8 g t r x k:=by
 intro k
 induction k with
 |zero=>rfl
 |succ k ih=>simp only[q8,ih]
theorem JA (sum:Int):j3 ⟨A,cp,g.n,g.ks,g.fi,g.fb⟩ t r sum=j3 g t r sum:=by
 simp only[j3,Z3]
theorem K5 (sum:Int):ve ⟨A,cp,g.n,g.ks,g.fi,g.fb⟩ t r sum=ve g t r sum:=by
 simp only[ve,zia,JA,Z3]
theorem zbR (sum:Int):∀k,vf ⟨A,cp,g.n,g.ks,g.fi,g.fb⟩ t r sum k=vf g t r sum k:=by
 intro k
 induction k with
 |zero=>simp only[vf,JA,K5,Z3]
 |succ k ih=>simp only[vf,ih,K5]
theorem zgm (sum:Int) (k:Nat):Wi ⟨A,cp,g.n,g.ks,g.fi,g.fb⟩ t r sum k=Wi g t r sum k:=by
 simp only[Wi,zbR,K5]
end
theorem XC {F:FuncId} {er:Bool} (J:FsJ C bad words ρ) (h:C.Good) (hc:∀(g:GD) (t r s c x:Int) (w:World),g.ks=[true,true,false]->g.ok w->qj g t r s c=0->B64 x->Calls Tryz.prog F #[.agg #[.int .i64 t,.int .i64 r,.int .i64 s,.int .i64 c],.slice g.A g.n g.c,.int .i64 x] w fun e w'=>(∃v,e= .returned (if er=true then .tuple #[v,.nilIface]else v)/\gM 3 w.heap.size w' (YH g t r x) v)/\Below w.heap.size w w'):HOK Tryz.prog ρ (gQ C.N F er):=by
 intro pc f args H nx r vs hs hpc hv b base w0 w hH hmem hbel hbase hargs
 unfold gQ at hs
 split at hs
 ·rename_i hk
  have:=Nat.eq_of_beq_eq_true hk
  subst this
  split at hs
  ·rename_i t rr s c sv x
   split at hs
   ·rename_i l hl
    split at hs
    ·rename_i q hkk
     obtain⟨hmm,hE⟩:=qv hkk
     have hq4:q<4:=by simp at hmm;omega
     obtain⟨k,hkq⟩:∃k,q%2=k:=⟨_,rfl⟩
     have hk2:k<2:=by omega
     unfold Mb at hE
     simp only[hkq]at hs hE
     obtain⟨n1,n2⟩:=h.n k hk2
     obtain⟨a0,a1,a2,a3,hact,r0,r1,r2,r3⟩:=J.act hk2
     rw[hact]at hE
     simp only[List.cons_append,List.nil_append,List.cons.injEq]at hE
     obtain⟨e0,e1,e2,e3,e4,e5⟩:=hE
     subst e5
     have hx:x.e.i ρ=C.tg k:=by
      rw[e4]
      split
      ·exact J.toE hk2
      ·exact J.toP h hk2
     cases hs
     obtain⟨A,cp,d1,o⟩:=WZ hH (e0:=fun j=>wtE k j 0) (e1:=fun j=>wtE k j 1) (e2:=fun j=>wtE k j 2) hl n2 (by omega) (fi:=(C.seen k).fi) (fb:=(C.seen k).fb) (fun j hj=>by
      obtain⟨x0,x1,x2,_⟩:=zkS J hk2 (show j<4 by omega)
      exact⟨x0.trans (Frm.seen_fi hj).1.symm,x1.trans (Frm.seen_fi hj).2.symm,x2⟩) (XB h hk2)
     have hd:(SV.denL ρ b [.agg [.int .i64 t,.int .i64 rr,.int .i64 s,.int .i64 c],sv,.int .i64 x]).toArray=#[.agg #[.int .i64 (C.ax k 5),.int .i64 (C.ax k 6),.int .i64 (C.ax k 7),.int .i64 (C.ax k 10)],.slice A (C.N k) cp,.int .i64 (C.tg k)]:=by
      rw[show(SV.denL ρ b [.agg [.int .i64 t,.int .i64 rr,.int .i64 s,.int .i64 c],sv,.int .i64 x]).toArray=#[.agg #[.int .i64 (t.e.i ρ),.int .i64 (rr.e.i ρ),.int .i64 (s.e.i ρ),.int .i64 (c.e.i ρ)],sv.den ρ b,.int .i64 (x.e.i ρ)]from by simp only[SV.denL,zA,zh]]
      rw[d1,e0,e1,e2,e3,hx,r0,r1,r2,r3]
     rw[hd]
     have ht:=zkR h hk2
     have hsm:=Frm.seen_may h hk2
     refine(hc ⟨A,cp,C.N k,[true,true,false],(C.seen k).fi,(C.seen k).fb⟩ _ _ _ _ _ w rfl o ((zkW (C.seen k) A cp _ _ _ _ _ _).trans hsm) (by unfold B64;omega)).mono ?_
     rintro e w' ⟨⟨v,rfl,y1⟩,y2⟩
     have hL:YH ⟨A,cp,C.N k,[true,true,false],(C.seen k).fi,(C.seen k).fb⟩ (C.ax k 5) (C.ax k 6) (C.tg k)=(((List.range (C.N k)).map fun j=>(⟨plE k j,-1000,1000⟩:R)).map fun r=>r.e.i ρ):=by
      unfold YH
      rw[List.map_map]
      refine List.map_congr_left fun j hj=>?_
      have hj:=List.mem_range.1 hj
      have hjn:j<C.N k:=hj
      exact(zgm (C.seen k) A cp _ _ _ _).trans (zkS J hk2 (show j<4 by omega)).2.2.2.symm
     rw[hL]at y1
     have hr:∀r∈((List.range (C.N k)).map fun j=>(⟨plE k j,-1000,1000⟩:R)),r.ok ρ:=by
      intro r hr
      obtain⟨j,hj,rfl⟩:=List.mem_map.1 hr
      have hjn:=List.mem_range.1 hj
      have hp:=(zkS J hk2 (show j<4 by omega)).2.2.2
      have:=Frm.pl_bd h hk2 hjn
      show -1000<=(plE k j).i ρ/\(plE k j).i ρ<=1000
      rw[hp];exact this
     obtain⟨b',z1,z2,z3⟩:=hH.newList hbase y2 y1 hr
     have hcells:(((List.range (C.N k)).map fun j=>(⟨plE k j,-1000,1000⟩:R)).map (SV.int .i64))=(List.range (C.N k)).map fun j=>SV.int .i64 ⟨plE k j,-1000,1000⟩:=by rw[List.map_map];rfl
     rw[hcells]at z3
     have hlen:(((List.range (C.N k)).map fun j=>(⟨plE k j,-1000,1000⟩:R))).length=C.N k:=by simp
     rw[hlen]at z1
     cases er
     ·exact⟨b',by rw[if_neg (by simp),z1];rfl,z2,z3,Nat.lt_succ_self _,hbel.trans ((Kept.of y2).mono hbase),fun k hk=>Nat.lt_of_lt_of_le (hbase k hk) y2.size,Nat.le_succ _⟩
     ·exact⟨b',by rw[if_pos rfl,z1];rfl,z2,z3,⟨Nat.lt_succ_self _,trivial,trivial⟩,hbel.trans ((Kept.of y2).mono hbase),fun k hk=>Nat.lt_of_lt_of_le (hbase k hk) y2.size,Nat.le_succ _⟩
    ·cases hs
   ·cases hs
  ·cases hs
 ·cases hs
theorem W3 (J:FsJ C bad words ρ) (h:C.Good):HOK Tryz.prog ρ (gQ C.N 85 true):=XC J h fun g t r s c x w k o hz bx=>Vx g k t r s c x w o hz bx
theorem W4 (J:FsJ C bad words ρ) (h:C.Good):HOK Tryz.prog ρ (gQ C.N 69 false):=XC J h fun g t r s c x w k o hz bx=>zaY g k t r s c x w o hz bx
end Go.Proofs.YtoakpnoajmngmaaGreatDoor.Sx
namespace Go.Proofs.YtoakpnoajmngmaaGreatDoor.Sx
open Go.RowKit
def ziC (L:List Rd) (l s:Int):Bool:=(fnd L l s).2&&decide ((fnd L l s).1.st=3)
def zkX (L:List Rd) (l s:Int):Int:=if ziC L l s=true then(fnd L l s).1.d else 0
set_option maxRecDepth 100000 in
set_option maxHeartbeats 1000000 in
theorem Zh (v:Value) (L:List Rd) (l s:Int) (w:World) (h:xM w v L) (hn:L.length<=1000):
  Calls Tryz.prog 31 #[v,.int .i64 l,.int .i64 s] w fun e w'=>e= .returned (.agg #[.bool (ziC L l s),.int .i64 (zkX L l s)])/\Below w.heap.size w w':=by
 have HF:Hid (∀w1,Below w.heap.size w w1->Calls Tryz.prog 63 #[v,.int .i64 l,.int .i64 s] w1 fun e w'=>e= .returned (.tuple #[.agg #[.int .i64 (fnd L l s).1.l,.int .i64 (fnd L l s).1.s,.int .i64 (fnd L l s).1.st,.int .i64 (fnd L l s).1.d],.bool (fnd L l s).2])/\Below w1.heap.size w1 w'):=fun w1 hb=>(zeu v L l s w1 (h.below hb) hn).mono fun e w' hh=>by
  obtain⟨⟨r,o,h1,h2⟩,h3⟩:=hh
  obtain⟨rfl,rfl⟩:=(WT L l s).uniq h2
  exact⟨h1,h3⟩
 have hB:ziC L l s=((fnd L l s).2&&decide ((fnd L l s).1.st=3)):=rfl
 have hD:zkX L l s=if((fnd L l s).2&&decide ((fnd L l s).1.st=3))=true then(fnd L l s).1.d else 0:=rfl
 rw[hB,hD]
 clear h hB hD hn
 generalize (fnd L l s).1.l=rl at*
 generalize (fnd L l s).1.s=rs at*
 generalize (fnd L l s).1.st=rt at*
 generalize (fnd L l s).1.d=rd at*
 generalize (fnd L l s).2=ro at*
 cases ro
 ·go_enter Tryz.func31,Tryz.ntmps31
  go_upto_region 2 with(first|(go_at_call 63;((with_reducible refine(HF.out _ (gW)).mono ?_);rintro e w4 ⟨rfl,hb4⟩;have hz4:=hb4.size;simp only[World.size_alloc]at hz4))|fail)
  refine zT (fun ω=>Below w.heap.size w ω/\w.heap.size<ω.heap.size/\(∀o,ω.frozen? ⟨w.heap.size,o,none⟩=false)/\ω.cell? ⟨w.heap.size,0,none⟩=some (.bool false)/\ω.cell? ⟨w.heap.size,1,none⟩=some (.int .i64 0)/\w4.heap.size<ω.heap.size/\(∀o,ω.frozen? ⟨w4.heap.size,o,none⟩=false)/\ω.cell? ⟨w4.heap.size,0,none⟩=some (.int .i64 rl)/\ω.cell? ⟨w4.heap.size,1,none⟩=some (.int .i64 rs)/\ω.cell? ⟨w4.heap.size,2,none⟩=some (.int .i64 rt)/\ω.cell? ⟨w4.heap.size,3,none⟩=some (.int .i64 rd)) ⟨gW,gS,gF,gC,gC,gS,gF,gC,gC,gC,gC⟩ ?_
  rintro w5 ⟨hB5,hy5_0,hf5_0,hc5_0_0,hc5_0_1,hy5_4_0,hf5_4_0,hc5_4_0_0,hc5_4_0_1,hc5_4_0_2,hc5_4_0_3⟩
  go_wp2
  all_goals(refine bodyPost_ret (v:= .agg #[.bool false,.int .i64 0]) ?_ rfl ⟨by simp,gW⟩)
  all_goals simp[results,Tryz.results31,go_sem, *]
 ·by_cases ht:rt=3
  ·subst ht
   go_enter Tryz.func31,Tryz.ntmps31
   go_upto_region 2 with(first|(go_at_call 63;((with_reducible refine(HF.out _ (gW)).mono ?_);rintro e w4 ⟨rfl,hb4⟩;have hz4:=hb4.size;simp only[World.size_alloc]at hz4))|fail)
   refine zT (fun ω=>Below w.heap.size w ω/\w.heap.size<ω.heap.size/\(∀o,ω.frozen? ⟨w.heap.size,o,none⟩=false)/\ω.cell? ⟨w.heap.size,0,none⟩=some (.bool false)/\ω.cell? ⟨w.heap.size,1,none⟩=some (.int .i64 0)/\w4.heap.size<ω.heap.size/\(∀o,ω.frozen? ⟨w4.heap.size,o,none⟩=false)/\ω.cell? ⟨w4.heap.size,0,none⟩=some (.int .i64 rl)/\ω.cell? ⟨w4.heap.size,1,none⟩=some (.int .i64 rs)/\ω.cell? ⟨w4.heap.size,2,none⟩=some (.int .i64 3)/\ω.cell? ⟨w4.heap.size,3,none⟩=some (.int .i64 rd)) ⟨gW,gS,gF,gC,gC,gS,gF,gC,gC,gC,gC⟩ ?_
   rintro w5 ⟨hB5,hy5_0,hf5_0,hc5_0_0,hc5_0_1,hy5_4_0,hf5_4_0,hc5_4_0_0,hc5_4_0_1,hc5_4_0_2,hc5_4_0_3⟩
   go_wp2
   all_goals(refine bodyPost_ret (v:= .agg #[.bool true,.int .i64 rd]) ?_ rfl ⟨by simp,gW⟩)
   all_goals simp[results,Tryz.results31,go_sem, *]
  ·have ht2:(rt==3)=false:=by simp[ht]
   go_enter Tryz.func31,Tryz.ntmps31
   go_upto_region 2 with(first|(go_at_call 63;((with_reducible refine(HF.out _ (gW)).mono ?_);rintro e w4 ⟨rfl,hb4⟩;have hz4:=hb4.size;simp only[World.size_alloc]at hz4))|fail)
   refine zT (fun ω=>Below w.heap.size w ω/\w.heap.size<ω.heap.size/\(∀o,ω.frozen? ⟨w.heap.size,o,none⟩=false)/\ω.cell? ⟨w.heap.size,0,none⟩=some (.bool false)/\ω.cell? ⟨w.heap.size,1,none⟩=some (.int .i64 0)/\w4.heap.size<ω.heap.size/\(∀o,ω.frozen? ⟨w4.heap.size,o,none⟩=false)/\ω.cell? ⟨w4.heap.size,0,none⟩=some (.int .i64 rl)/\ω.cell? ⟨w4.heap.size,1,none⟩=some (.int .i64 rs)/\ω.cell? ⟨w4.heap.size,2,none⟩=some (.int .i64 rt)/\ω.cell? ⟨w4.heap.size,3,none⟩=some (.int .i64 rd)) ⟨gW,gS,gF,gC,gC,gS,gF,gC,gC,gC,gC⟩ ?_
   rintro w5 ⟨hB5,hy5_0,hf5_0,hc5_0_0,hc5_0_1,hy5_4_0,hf5_4_0,hc5_4_0_0,hc5_4_0_1,hc5_4_0_2,hc5_4_0_3⟩
   go_wp2
   all_goals(refine bodyPost_ret (v:= .agg #[.bool false,.int .i64 0]) ?_ rfl ⟨by simp[ht],gW⟩)
   all_goals simp[results,Tryz.results31,go_sem, *]
set_option maxRecDepth 100000 in
set_option maxHeartbeats 1000000 in
theorem K6 (fb:Nat) (v:Value) (L:List Rd) (l s:Int) (w:World) (hc:w.cell? ⟨fb,62,none⟩=some v) (hlt:fb<w.heap.size) (h:xM w v L) (hn:L.length<=1000):
  Calls Tryz.prog 40 #[.pointer (some ⟨fb,0,none⟩),.int .i64 l,.int .i64 s] w fun e w'=>e= .returned (.agg #[.bool (ziC L l s),.int .i64 (zkX L l s)])/\Below w.heap.size w w':=by
 have HF:Hid (∀w1,Below w.heap.size w w1->Calls Tryz.prog 79 #[v,.int .i64 l,.int .i64 s] w1 fun e w'=>e= .returned (.tuple #[.agg #[.int .i64 (fnd L l s).1.l,.int .i64 (fnd L l s).1.s,.int .i64 (fnd L l s).1.st,.int .i64 (fnd L l s).1.d],.bool (fnd L l s).2])/\Below w1.heap.size w1 w'):=fun w1 hb=>(zev v L l s w1 (h.below hb) hn).mono fun e w' hh=>by
  obtain⟨⟨r,o,h1,h2⟩,h3⟩:=hh
  obtain⟨rfl,rfl⟩:=(WT L l s).uniq h2
  exact⟨h1,h3⟩
 have hB:ziC L l s=((fnd L l s).2&&decide ((fnd L l s).1.st=3)):=rfl
 have hD:zkX L l s=if((fnd L l s).2&&decide ((fnd L l s).1.st=3))=true then(fnd L l s).1.d else 0:=rfl
 rw[hB,hD]
 obtain⟨A,c,rfl,_⟩:=h
 clear hB hD hn
 generalize (fnd L l s).1.l=rl at*
 generalize (fnd L l s).1.s=rs at*
 generalize (fnd L l s).1.st=rt at*
 generalize (fnd L l s).1.d=rd at*
 generalize (fnd L l s).2=ro at*
 generalize L.length=n at*
 have hne:fb≠w.heap.size:=by omega
 have hc1:∀o,(w.alloc o).cell? ⟨fb,62,none⟩=some (.slice A n c):=fun o=>by exact(World.cell?_alloc_lt (w:=w) (a:=⟨fb,62,none⟩) o hlt).trans hc
 cases ro
 ·go_enter Tryz.func40,Tryz.ntmps40
  go_upto_region 2 with(first|(go_at_call 79;((with_reducible refine(HF.out _ (gW)).mono ?_);rintro e w4 ⟨rfl,hb4⟩;have hz4:=hb4.size;simp only[World.size_alloc]at hz4))|fail)
  refine zT (fun ω=>Below w.heap.size w ω/\w.heap.size<ω.heap.size/\(∀o,ω.frozen? ⟨w.heap.size,o,none⟩=false)/\ω.cell? ⟨w.heap.size,0,none⟩=some (.bool false)/\ω.cell? ⟨w.heap.size,1,none⟩=some (.int .i64 0)/\w4.heap.size<ω.heap.size/\(∀o,ω.frozen? ⟨w4.heap.size,o,none⟩=false)/\ω.cell? ⟨w4.heap.size,0,none⟩=some (.int .i64 rl)/\ω.cell? ⟨w4.heap.size,1,none⟩=some (.int .i64 rs)/\ω.cell? ⟨w4.heap.size,2,none⟩=some (.int .i64 rt)/\ω.cell? ⟨w4.heap.size,3,none⟩=some (.int .i64 rd)) ⟨gW,gS,gF,gC,gC,gS,gF,gC,gC,gC,gC⟩ ?_
  rintro w5 ⟨hB5,hy5_0,hf5_0,hc5_0_0,hc5_0_1,hy5_4_0,hf5_4_0,hc5_4_0_0,hc5_4_0_1,hc5_4_0_2,hc5_4_0_3⟩
  go_wp2
  all_goals(refine bodyPost_ret (v:= .agg #[.bool false,.int .i64 0]) ?_ rfl ⟨by simp,gW⟩)
  all_goals simp[results,Tryz.results40,go_sem, *]
 ·by_cases ht:rt=3
  ·subst ht
   go_enter Tryz.func40,Tryz.ntmps40
   go_upto_region 2 with(first|(go_at_call 79;((with_reducible refine(HF.out _ (gW)).mono ?_);rintro e w4 ⟨rfl,hb4⟩;have hz4:=hb4.size;simp only[World.size_alloc]at hz4))|fail)
   refine zT (fun ω=>Below w.heap.size w ω/\w.heap.size<ω.heap.size/\(∀o,ω.frozen? ⟨w.heap.size,o,none⟩=false)/\ω.cell? ⟨w.heap.size,0,none⟩=some (.bool false)/\ω.cell? ⟨w.heap.size,1,none⟩=some (.int .i64 0)/\w4.heap.size<ω.heap.size/\(∀o,ω.frozen? ⟨w4.heap.size,o,none⟩=false)/\ω.cell? ⟨w4.heap.size,0,none⟩=some (.int .i64 rl)/\ω.cell? ⟨w4.heap.size,1,none⟩=some (.int .i64 rs)/\ω.cell? ⟨w4.heap.size,2,none⟩=some (.int .i64 3)/\ω.cell? ⟨w4.heap.size,3,none⟩=some (.int .i64 rd)) ⟨gW,gS,gF,gC,gC,gS,gF,gC,gC,gC,gC⟩ ?_
   rintro w5 ⟨hB5,hy5_0,hf5_0,hc5_0_0,hc5_0_1,hy5_4_0,hf5_4_0,hc5_4_0_0,hc5_4_0_1,hc5_4_0_2,hc5_4_0_3⟩
   go_wp2
   all_goals(refine bodyPost_ret (v:= .agg #[.bool true,.int .i64 rd]) ?_ rfl ⟨by simp,gW⟩)
   all_goals simp[results,Tryz.results40,go_sem, *]
  ·have ht2:(rt==3)=false:=by simp[ht]
   go_enter Tryz.func40,Tryz.ntmps40
   go_upto_region 2 with(first|(go_at_call 79;((with_reducible refine(HF.out _ (gW)).mono ?_);rintro e w4 ⟨rfl,hb4⟩;have hz4:=hb4.size;simp only[World.size_alloc]at hz4))|fail)
   refine zT (fun ω=>Below w.heap.size w ω/\w.heap.size<ω.heap.size/\(∀o,ω.frozen? ⟨w.heap.size,o,none⟩=false)/\ω.cell? ⟨w.heap.size,0,none⟩=some (.bool false)/\ω.cell? ⟨w.heap.size,1,none⟩=some (.int .i64 0)/\w4.heap.size<ω.heap.size/\(∀o,ω.frozen? ⟨w4.heap.size,o,none⟩=false)/\ω.cell? ⟨w4.heap.size,0,none⟩=some (.int .i64 rl)/\ω.cell? ⟨w4.heap.size,1,none⟩=some (.int .i64 rs)/\ω.cell? ⟨w4.heap.size,2,none⟩=some (.int .i64 rt)/\ω.cell? ⟨w4.heap.size,3,none⟩=some (.int .i64 rd)) ⟨gW,gS,gF,gC,gC,gS,gF,gC,gC,gC,gC⟩ ?_
   rintro w5 ⟨hB5,hy5_0,hf5_0,hc5_0_0,hc5_0_1,hy5_4_0,hf5_4_0,hc5_4_0_0,hc5_4_0_1,hc5_4_0_2,hc5_4_0_3⟩
   go_wp2
   all_goals(refine bodyPost_ret (v:= .agg #[.bool false,.int .i64 0]) ?_ rfl ⟨by simp[ht],gW⟩)
   all_goals simp[results,Tryz.results40,go_sem, *]
end Go.Proofs.YtoakpnoajmngmaaGreatDoor.Sx
namespace Go.Proofs.YtoakpnoajmngmaaGreatDoor.Sx
open Go.RowKit
variable {C:Frm} {bad words:Int} {ρ:Env}
theorem zeZ {F:FuncId} {mk:SV->SV} {w0:World} (J:FsJ C bad words ρ) (h:C.Good) (G:FsG C w0) (mv:Value->Value) (hmk:∀v b,(mk v).den ρ b=mv (v.den ρ b)) (hmo:∀v N,v.ok ρ N->(mk v).ok ρ N)
  (hc:∀(g d:GD) (lo hi tu bu mo aim held law st is sp al pr want got:Int) (w:World),TdG g d lo hi tu bu mo aim held law st is sp al pr want got->g.ok w->d.ok w->
   Calls Tryz.prog F #[.agg #[.int .i64 lo,.int .i64 hi,.int .i64 tu,.int .i64 bu,.int .i64 mo,.slice g.A g.n g.c,.slice d.A d.n d.c],.agg #[.int .i64 aim,.int .i64 held,.int .i64 law],.agg #[.int .i64 st,.int .i64 is,.int .i64 sp,.int .i64 al,.int .i64 pr],.int .i64 want,.int .i64 got] w fun e w'=>e= .returned (mv (.agg #[.int .i64 aim,.int .i64 (Kz bu mo aim held is al want got),.int .i64 law]))/\Below w.heap.size w w'):HOK Tryz.prog ρ (zb F (Vl C.N mk)):=by
 refine zo fun args gs v hp hg b base w N hok hm hbase=>?_
 unfold Vl at hp
 split at hp
 ·rename_i lo hi tu bu mo g glo ghi glen d dlo dhi dlen aim held law st is sp al pr want got
  split at hp
  ·rename_i k hk
   cases hp
   obtain⟨hmm,hE⟩:=qv hk
   have hk2:k<2:=by simp at hmm;omega
   have K:=J.k2 hk2
   obtain⟨m1,m2,m3,m4⟩:=Frm.most_is h hk2
   obtain⟨p1,p2⟩:=Frm.prev_bd h hk2
   obtain⟨⟨r1,r2,r3⟩,r4,r5,r6,hpl⟩:=zr (h.hold k hk2)
   have hst:=Frm.stick_bd C k
   have hl:=Frm.law_bd h
   have hv1:=Frm.vv_bd h (show k<3 by omega)
   have hv2:=Frm.vv_bd h (show 2<3 by omega)
   obtain⟨_,_,v6,_⟩:=J.vt (show k<3 by omega)
   obtain⟨_,_,v62,_⟩:=J.vt (show 2<3 by omega)
   have a0:=J.x hk2 (show 0<13 by omega)
   have a1:=J.x hk2 (show 1<13 by omega)
   have a11:=J.x hk2 (show 11<13 by omega)
   have a12:=J.x hk2 (show 12<13 by omega)
   have a4:=J.most h hk2
   unfold zk6 zbY zk0 znc at hE
   simp only[List.cons_append,List.nil_append,List.cons.injEq,and_true]at hE
   obtain⟨e0,e1,e2,e3,e4,eg,ed,e5,e6,e7,e8,e9,e10,e11,e12,e13,e14⟩:=hE
   have hgk:g=2*k:=by unfold nE at eg;injection eg with eg;omega
   have hdk:d=2*k+1:=by unfold nE at ed;injection ed with ed;omega
   subst hgk hdk
   obtain⟨⟨_,_,_,_,_,og,od,_⟩,_⟩:=hok
   have g0:=wN J og b
   have d0:=wN J od b
   have hd:(SV.denL ρ b [.agg [.int .i64 lo,.int .i64 hi,.int .i64 tu,.int .i64 bu,.int .i64 mo,.osl (2*k) [.int .i64 glo ghi] glen,.osl (2*k+1) [.int .i64 dlo dhi] dlen],.agg [.int .i64 aim,.int .i64 held,.int .i64 law],.agg [.int .i64 st,.int .i64 is,.int .i64 sp,.int .i64 al,.int .i64 pr],.int .i64 want,.int .i64 got]).toArray=#[.agg #[.int .i64 (C.ax k 0),.int .i64 (C.ax k 1),.int .i64 (C.ax k 11),.int .i64 (C.ax k 12),.int .i64 (C.most k),.slice (C.G (2*k)).A (C.G (2*k)).n (C.G (2*k)).c,.slice (C.G (2*k+1)).A (C.G (2*k+1)).n (C.G (2*k+1)).c],.agg #[.int .i64 (C.wn k).2.1,.int .i64 (C.wn k).2.2,.int .i64 C.law'],.agg #[.int .i64 (C.stick k),.int .i64 (C.vv k),.int .i64 (C.vv 2),.int .i64 C.law',.int .i64 (C.prev k)],.int .i64 (C.wn k).1,.int .i64 (C.sum2 k)]:=by
    rw[show(SV.denL ρ b [.agg [.int .i64 lo,.int .i64 hi,.int .i64 tu,.int .i64 bu,.int .i64 mo,.osl (2*k) [.int .i64 glo ghi] glen,.osl (2*k+1) [.int .i64 dlo dhi] dlen],.agg [.int .i64 aim,.int .i64 held,.int .i64 law],.agg [.int .i64 st,.int .i64 is,.int .i64 sp,.int .i64 al,.int .i64 pr],.int .i64 want,.int .i64 got]).toArray=#[.agg #[.int .i64 (lo.e.i ρ),.int .i64 (hi.e.i ρ),.int .i64 (tu.e.i ρ),.int .i64 (bu.e.i ρ),.int .i64 (mo.e.i ρ),(SV.osl (2*k) [.int .i64 glo ghi] glen).den ρ b,(SV.osl (2*k+1) [.int .i64 dlo dhi] dlen).den ρ b],.agg #[.int .i64 (aim.e.i ρ),.int .i64 (held.e.i ρ),.int .i64 (law.e.i ρ)],.agg #[.int .i64 (st.e.i ρ),.int .i64 (is.e.i ρ),.int .i64 (sp.e.i ρ),.int .i64 (al.e.i ρ),.int .i64 (pr.e.i ρ)],.int .i64 (want.e.i ρ),.int .i64 (got.e.i ρ)]from by simp only[SV.denL,zA,zh]]
    rw[g0,d0,e0,e1,e2,e3,e4,e5,e6,e7,e8,e9,e10,e11,e12,e13,e14,a0,a1,a11,a12,a4,K.wn0,K.wn1,K.wn2,K.stick,v6,v62,J.law,K.prev,K.sum2]
   rw[hd]
   obtain⟨⟨w1,w2⟩,⟨w3,w4⟩,w5,w6⟩:=Frm.wn_bd h hk2
   have n1:=G.n (2*k) (by omega)
   have n2:=G.n (2*k+1) (by omega)
   have hs2:=Frm.sum2_bd h hk2
   obtain⟨t1,t2⟩:=Frm.told_bd h hk2
   refine(hc (C.G (2*k)) (C.G (2*k+1)) _ _ _ _ _ _ _ _ _ _ _ _ _ _ _ w ⟨G.ks _ (by omega),G.ks _ (by omega),n1,n2,h.hold k hk2,⟨w3,w4⟩,⟨w5,w6⟩,hl,hst,hv1,hv2,hl,⟨p1,p2⟩,⟨w1,w2⟩,hs2⟩ (J.j.std.row G.ok hm hbase _) (J.j.std.row G.ok hm hbase _)).mono ?_
   rintro e w' ⟨y1,y2⟩
   have ht:Kz (C.ax k 12) (C.most k) (C.wn k).2.1 (C.wn k).2.2 (C.vv k) C.law' (C.wn k).1 (C.sum2 k)=C.told k:=rfl
   refine⟨?_,hmo _ _ ?_,y2⟩
   ·rw[y1,hmk,ht]
    simp only[SV.denL,zA,zh,kI,K.wn1,K.told,J.law]
   ·simp only[SV.ok,SV.okL,kI,R.ok,K.wn1,K.told,J.law,and_true]
    exact⟨⟨by omega,by omega⟩,⟨by omega,by omega⟩,hl⟩
  ·cases hp
 ·cases hp
theorem zgn {w0:World} (J:FsJ C bad words ρ) (h:C.Good) (G:FsG C w0):HOK Tryz.prog ρ (zb 87 (Vl C.N okT)):=
 zeZ J h G (fun v=> .tuple #[v,.nilIface]) (fun v b=>by simp[okT,SV.den,SV.denL]) (fun v N hv=>⟨hv,trivial,trivial⟩) fun g d lo hi tu bu mo aim held law st is sp al pr want got w T o o'=>zes g d lo hi tu bu mo aim held law st is sp al pr want got T w o o'
theorem zgo {w0:World} (J:FsJ C bad words ρ) (h:C.Good) (G:FsG C w0):HOK Tryz.prog ρ (zb 70 (Vl C.N id)):=
 zeZ J h G id (fun v b=>rfl) (fun v N hv=>hv) fun g d lo hi tu bu mo aim held law st is sp al pr want got w T o o'=>zik g d lo hi tu bu mo aim held law st is sp al pr want got T w o o'
theorem ze0:∀(L:List Rd) (i:Nat) (r:Rd),L[i]? =some r->(Frm.rdI L)[i*4]? =some r.l/\(Frm.rdI L)[i*4+1]? =some r.s/\(Frm.rdI L)[i*4+2]? =some r.st/\(Frm.rdI L)[i*4+3]? =some r.d
 |[],i,r,h=>by simp at h
 |x::t,0,r,h=>by
  cases h
  exact⟨rfl,rfl,rfl,rfl⟩
 |x::t,i+1,r,h=>by
  have ih:=ze0 t i r h
  have e:(i+1)*4=i*4+1+1+1+1:=by omega
  rw[e]
  exact ih
theorem XD:∀(L:List Rd) (i:Nat) (x:Int),(Frm.rdI L)[i]? =some x->∃r,L[i/4]? =some r/\((i%4=0/\x=r.l)\/(i%4=1/\x=r.s)\/(i%4=2/\x=r.st)\/(i%4=3/\x=r.d))
 |[],i,x,h=>by simp[Frm.rdI]at h
 |r::t,0,x,h=>by cases h;exact⟨r,rfl,.inl ⟨rfl,rfl⟩⟩
 |r::t,1,x,h=>by cases h;exact⟨r,rfl,.inr (.inl ⟨rfl,rfl⟩)⟩
 |r::t,2,x,h=>by cases h;exact⟨r,rfl,.inr (.inr (.inl ⟨rfl,rfl⟩))⟩
 |r::t,3,x,h=>by cases h;exact⟨r,rfl,.inr (.inr (.inr ⟨rfl,rfl⟩))⟩
 |r::t,i+4,x,h=>by
  obtain⟨q,h1,h2⟩:=XD t i x h
  refine⟨q,?_,?_⟩
  ·rw[show(i+4)/4=i/4+1 by omega];exact h1
  ·rw[show(i+4)%4=i%4 by omega];exact h2
theorem FsJ.ls (J:FsJ C bad words ρ) {l s:Nat} (hk:ziD l s=true):(zbX l s).b ρ=C.there l s/\(XF l s).i ρ=C.data l s:=by
 unfold ziD at hk
 simp only[Bool.or_eq_true,Bool.and_eq_true,decide_eq_true_eq]at hk
 rcases hk with⟨hs,hl⟩|⟨⟨rfl,h1⟩,h2⟩
 ·obtain rfl|rfl|rfl:s=0\/s=1\/s=2:=by omega
  all_goals obtain rfl|rfl|rfl:l=1\/l=2\/l=8:=by omega
  all_goals exact⟨J.kb rfl,J.k rfl⟩
 ·have e:znO l 3=400+2*(9+(l-16)):=rfl
  unfold zbX XF
  rw[e]
  refine⟨(J.kb (Nat.ble_eq_true_of_le (by omega))).trans ?_,(J.k (Nat.ble_eq_true_of_le (by omega))).trans ?_⟩
  ·unfold Frm.fbS
   rw[if_neg (by omega),if_neg (by omega),show(400+2*(9+(l-16))-400)/2=l-7 by omega]
   unfold unL unS
   rw[if_neg (by omega),if_neg (by omega),show l-7+7=l by omega]
  ·unfold Frm.fnS
   rw[if_neg (by omega),if_neg (by omega),if_neg (by omega),if_neg (by omega),if_neg (by omega),if_neg (by omega),if_neg (by omega),if_neg (by omega),if_neg (by omega),if_neg (by omega),if_neg (by omega),if_neg (by omega),if_neg (by omega),if_neg (by omega),if_neg (by omega),if_pos (by omega),show(400+2*(9+(l-16))+1-400)/2=l-7 by omega]
   unfold unL unS
   rw[if_neg (by omega),if_neg (by omega),show l-7+7=l by omega]
theorem XE (J:FsJ C bad words ρ) {b:Bd} {base:Nat->Prop} {w:World} {H:List (Nat × HEnt)} {N:Nat->Prop} (hH:HRel ρ b base w H N) {v:SV} (h:znd H v=true):xM w (v.den ρ b) C.L:=by
 unfold znd at h
 split at h
 ·rename_i n len
  split at h
  ·rename_i ty k hf
   simp only[Bool.and_eq_true,decide_eq_true_eq]at h
   obtain⟨h1,h2⟩:=h
   subst h1
   have hlen:=E.same_eq h2
   obtain⟨_,h3,_⟩:=hH.mem n _ hf (zq ρ)
   obtain⟨o0,o1,_,arr,ha,hv⟩:=h3
   have hfl:ρ.fl 900 []=Frm.rdI C.L:=by rw[J.fl];rfl
   rw[hfl]at hv
   have hn:(len.e.i ρ).toNat=C.L.length:=by
    rw[hlen]
    have:yk.i ρ=C.L.length:=J.k (id:=500) rfl
    rw[this];rfl
   have hsz:=(Array.getElem?_eq_some_iff.1 ha).1
   refine⟨some ⟨b.β n,0,none⟩,b.κ n,by simp[SV.den,o0,hn],fun i r hr=>⟨b.β n,0,rfl,hsz,?_⟩⟩
   obtain⟨q0,q1,q2,q3⟩:=ze0 C.L i r hr
   have c0:=hv _ _ q0
   have c1:=hv _ _ q1
   have c2:=hv _ _ q2
   have c3:=hv _ _ q3
   simp only[World.cell?,ha,Nat.zero_add]
   exact⟨by simpa using c0,by simpa using c1,by simpa using c2,by simpa using c3⟩
  ·cases h
 ·cases h
theorem Zi {e:E} {n:Nat} (h:ze1 e=some n) (ρ:Env):e.i ρ=n:=by
 unfold ze1 at h
 split at h
 ·rename_i z
  split at h
  ·cases h;simp only[E.i];omega
  ·cases h
 ·cases h
theorem K7 (J:FsJ C bad words ρ) (h:C.Good) {l s:Nat} (hk:ziD l s=true) (b:Bd) (N:Nat->Prop):(ziF l s).den ρ b= .agg #[.bool (ziC C.L l s),.int .i64 (zkX C.L l s)]/\(ziF l s).ok ρ N:=by
 obtain⟨h1,h2⟩:=J.ls hk
 have hb:=Frm.data_bd h l s
 unfold ziF
 refine⟨?_,?_⟩
 ·simp only[SV.denL,zA,zh,SV.den,h1,h2]
  rfl
 ·simp only[SV.ok,SV.okL,R.ok,h2,and_true]
  exact⟨trivial,hb⟩
theorem Vg {e:Bool} (J:FsJ C bad words ρ) (h:C.Good) (he:e=true->C.L=[]):HOK Tryz.prog ρ (jn 31 (Qa e)):=by
 refine yM fun args H gs v hp hg b base w N hH hok hm hbase=>?_
 unfold Qa at hp
 split at hp
 ·rename_i l s
  split at hp
  ·rename_i ln sn hl hs
   split at hp
   ·rename_i hc
    cases hp
    rw[Bool.and_eq_true]at hc
    obtain⟨z1,z2⟩:=K7 J h hc.2 b N
    have hd:(SV.denL ρ b [.nils,.int .i64 l,.int .i64 s]).toArray=#[.slice none 0 0,.int .i64 (ln:Int),.int .i64 (sn:Int)]:=by
     simp only[SV.denL,zh,SV.den,Zi hl,Zi hs]
    rw[hd,z1]
    have hr:xM w (.slice none 0 0) C.L:=by rw[he hc.1];exact⟨none,0,rfl,fun k r hk=>by simp at hk⟩
    exact(Zh _ C.L ln sn w hr (by have:=h.len;omega)).mono fun e w' ⟨y1,y2⟩=>⟨y1,z2,y2⟩
   ·cases hp
  ·cases hp
 ·rename_i v0 l s hnn
  split at hp
  ·rename_i ln sn hr hl hs
   split at hp
   ·rename_i hc
    cases hp
    obtain⟨z1,z2⟩:=K7 J h hc b N
    have hd:(SV.denL ρ b [v0,.int .i64 l,.int .i64 s]).toArray=#[v0.den ρ b,.int .i64 (ln:Int),.int .i64 (sn:Int)]:=by
     simp only[SV.denL,zh,Zi hl,Zi hs]
    rw[hd,z1]
    exact(Zh _ C.L ln sn w (XE J hH hr) (by have:=h.len;omega)).mono fun e w' ⟨y1,y2⟩=>⟨y1,z2,y2⟩
   ·cases hp
  ·cases hp
 ·cases hp
theorem W5 (J:FsJ C bad words ρ) (h:C.Good):HOK Tryz.prog ρ (jn 40 Ya):=by
 refine yM fun args H gs v hp hg b base w N hH hok hm hbase=>?_
 unfold Ya at hp
 split at hp
 ·rename_i n l s
  split at hp
  ·rename_i cells ty ln sn hf hl hs
   split at hp
   ·rename_i v0 hv0
    split at hp
    ·rename_i hc
     cases hp
     rw[Bool.and_eq_true]at hc
     obtain⟨z1,z2⟩:=K7 J h hc.2 b N
     obtain⟨_,h3,_⟩:=hH.mem n _ hf (zq ρ)
     have hcell:=h3.cell hv0
     obtain⟨b1,b2,b3⟩:=h3.base rfl
     have hd:(SV.denL ρ b [.ptr n 0,.int .i64 l,.int .i64 s]).toArray=#[.pointer (some ⟨b.β n,0,none⟩),.int .i64 (ln:Int),.int .i64 (sn:Int)]:=by
      simp only[SV.denL,zh,SV.den,Zi hl,Zi hs,b3,Nat.add_zero]
     rw[hd,z1]
     rw[b3,Nat.zero_add]at hcell
     exact(K6 (b.β n) _ C.L ln sn w hcell b2 (XE J hH hc.1) (by have:=h.len;omega)).mono fun e w' ⟨y1,y2⟩=>⟨y1,z2,y2⟩
    ·cases hp
   ·cases hp
  ·cases hp
 ·cases hp
end Go.Proofs.YtoakpnoajmngmaaGreatDoor.Sx
