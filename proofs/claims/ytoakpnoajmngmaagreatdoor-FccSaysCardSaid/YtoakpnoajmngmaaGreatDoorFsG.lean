import Derived.Test.YtoakpnoajmngmaaGreatDoorLineA
import Derived.Test.YtoakpnoajmngmaaGreatDoorFsH6
import Derived.Test.YtoakpnoajmngmaaGreatDoorTopSharePl
import Derived.Test.YtoakpnoajmngmaaGreatDoorFsHm
import Derived.Test.YtoakpnoajmngmaaGreatDoorWgB
import Derived.Test.YtoakpnoajmngmaaGreatDoorWgC
import Derived.Test.YtoakpnoajmngmaaGreatDoorFs22Run
import Derived.Test.YtoakpnoajmngmaaGreatDoorFs23Run
import Derived.Test.YtoakpnoajmngmaaGreatDoorFs24Run
import Derived.Test.YtoakpnoajmngmaaGreatDoorFs32Run
import Derived.Test.YtoakpnoajmngmaaGreatDoorFs33Run
import Derived.Test.YtoakpnoajmngmaaGreatDoorFs34Run
import Derived.Test.YtoakpnoajmngmaaGreatDoorFs42Run
import Derived.Test.YtoakpnoajmngmaaGreatDoorFs43Run
import Derived.Test.YtoakpnoajmngmaaGreatDoorFs44Run
import Derived.Test.YtoakpnoajmngmaaGreatDoorFsN1Run
import Derived.Test.YtoakpnoajmngmaaGreatDoorFsN3Run
import Derived.Test.YtoakpnoajmngmaaGreatDoorFsN5Run
import Derived.Test.YtoakpnoajmngmaaGreatDoorFsN7Run
import Derived.Test.YtoakpnoajmngmaaGreatDoorFsN9Run
set_option linter.unusedVariables false
set_option linter.unusedSimpArgs false
namespace Go.Proofs.YtoakpnoajmngmaaGreatDoor.Sx
open Go.RowKit
namespace Frm
def pax (C:Frm) (k:Nat):Int:=xI (zC (C.G (2*k)).f (C.G (2*k)).n (C.G (2*k+1)).f (C.G (2*k+1)).n) (zX (C.G (2*k+1)).f (C.G (2*k+1)).n) (C.ax k 0) (C.ax k 1) (C.ax k 2) (C.ax k 3) (C.ax k 4) (C.ax k 5) (C.ax k 6) (C.ax k 7) (C.ax k 8) (C.ax k 9) (C.ax k 10) (C.ax k 11) (C.ax k 12)
def pcr (C:Frm):Int:=por (por (C.pax 0) (C.pax 1)) (qr C.lim C.con)
def mostS (C:Frm) (k:Nat):Int:=(C.ax k 4-1)*C.ax k 5
def pbk (C:Frm) (k:Nat):Int:=jy (C.bk k 0) (C.bk k 1) (C.bk k 2) (C.bk k 6)
def phs (C:Frm) (k:Nat):Prop:=Q9 (C.ax k 0) (C.ax k 1) (C.mostS k) (C.hd k 0) (C.hd k 1) (C.hd k 2)
instance (C:Frm) (k:Nat):Decidable (C.phs k):=by unfold phs;infer_instance
def phd (C:Frm) (k:Nat):Int:=if C.phs k then 0 else 3
def psv (C:Frm) (k j:Nat):Int:=zj (C.ax k 5) (C.ax k 6) (C.ax k 7) (C.ax k 10) ((C.G (4+k)).fi j 0) ((C.G (4+k)).fi j 1) ((C.G (4+k)).fb j 2)
def fnM (C:Frm) (id:Nat):Int:=if id<602 then C.pax (id-600)else if id=602 then qr C.lim C.con else if id=603 then C.pcr else if id<620 then C.pbk (id-610)else if id<630 then C.phd (id-620)else C.psv ((id-630)/10) ((id-630)%10)
def ivM (C:Frm) (n:Nat):Int:=if n<40 then C.ax 0 (n-20)else if n<60 then C.ax 1 (n-40)else if n=60 then C.lim else if n=61 then C.con else if n<107 then(C.G (n-100)).n else if n<140 then C.bk ((n-110)/10) ((n-110)%10)else if n<170 then C.hd ((n-150)/10) ((n-150)%10)else C.law
def bvM (C:Frm) (n:Nat):Bool:=C.bo ((n-110)/10) ((n-110)%10-3)
theorem pax_bd (C:Frm) (k:Nat):0<=C.pax k/\C.pax k<=5:=gl (qw _ _ _ _) _ _ _ _ _ _ _ _ _ _ _ _ _
theorem pv_bd (C:Frm):0<=qr C.lim C.con/\qr C.lim C.con<=5:=by
 unfold qr
 split<;>omega
theorem pcr_bd (C:Frm):0<=C.pcr/\C.pcr<=5:=by
 have h0:=C.pax_bd 0
 have h1:=C.pax_bd 1
 have h2:=C.pv_bd
 unfold pcr por
 (repeat' split)<;>omega
end Frm
structure FsI (C:Frm) (w:World):Prop where
 ok:∀k,(C.G k).ok w
 ks:∀k,k<4->(C.G k).ks=[true]
 sv:∀k,k=4\/k=5->(C.G k).ks=[true,true,false]
 n:∀k,k<4->(C.G k).n<=20
 m:∀k,k=4\/k=5->(C.G k).n<=9
 ax:∀k j,B64 (C.ax k j)
 bk:∀k j,B64 (C.bk k j)
 hd:∀k j,B64 (C.hd k j)
 lim:B64 C.lim
 con:B64 C.con
 law:B64 C.law
abbrev FmJ (C:Frm) (ρ:Env):Prop:=Jq (fun _ id _=>C.fnM id) noB C.G C.ivM C.bvM ρ
theorem Jq.mem {fn:(Nat->GD)->Nat->List Int->Int} {fb:(Nat->GD)->Nat->List Int->Bool} {G:Nat->GD} {m:Nat->Int} {q:Nat->Bool} {ρ:Env} (h:Jq fn fb G m q ρ) (hn:ρ.mn=fun _ _=>[]) {w:World} (hG:∀k,(G k).ok w):Mem ρ (· <w.heap.size) w:=(⟨h.std,hn,h.at_,h.bt⟩:Jm fn fb G m q ρ).mem hG
def axM (C:Frm) (k:Nat):List Value:=[.int .i64 (C.ax k 0),.int .i64 (C.ax k 1),.int .i64 (C.ax k 2),.int .i64 (C.ax k 3),.int .i64 (C.ax k 4),.int .i64 (C.ax k 5),.int .i64 (C.ax k 6),.int .i64 (C.ax k 7),.int .i64 (C.ax k 8),.int .i64 (C.ax k 9),.int .i64 (C.ax k 10),.int .i64 (C.ax k 11),.slice (C.G (2*k)).A (C.G (2*k)).n (C.G (2*k)).c,.slice (C.G (2*k+1)).A (C.G (2*k+1)).n (C.G (2*k+1)).c,.int .i64 (C.ax k 12)]
def qd (C:Frm):Value:= .agg (axM C 0++axM C 1++[Value.int .i64 C.lim,Value.int .i64 C.con]).toArray
section
variable {C:Frm} {ρ:Env} {w0:World}
theorem FmJ.k (J:FmJ C ρ) {id:Nat} (h:Nat.blt id 1000=true):(kE id).i ρ=C.fnM id:=J.std.f h []
theorem FmJ.v (J:FmJ C ρ) {n:Nat} (h:Nat.blt n 1000=true):(E.v n).i ρ=C.ivM n:=J.at_ n h
theorem Xl (J:FmJ C ρ) (I:FsI C w0) {k:Nat} (hk:k<4) (N:Nat->Prop) (b:Bd):(qS k (100+k)).ok ρ N/\(qS k (100+k)).den ρ b= .slice (C.G k).A (C.G k).n (C.G k).c:=by
 refine J.std.osl I.ok (k:=k) (sh:=[.int .i64 (-9223372036854775808) 9223372036854775807]) (by rw[I.ks k hk];rfl) (by rw[I.ks k hk];decide) (e:= .v (100+k)) (lo:=0) (hi:=20) ?_ (Int.le_refl _) (Int.natCast_nonneg _) (by have:=I.n k hk;omega) N b
 rw[FmJ.v J (Nat.ble_eq_true_of_le (by omega))]
 unfold Frm.ivM
 rw[if_neg (by omega),if_neg (by omega),if_neg (by omega),if_neg (by omega),if_pos (by omega),show 100+k-100=k by omega]
theorem Xm (J:FmJ C ρ) (I:FsI C w0) (N:Nat->Prop) (b:Bd):SV.okL ρ N (jd 0)/\SV.denL ρ b (jd 0)=axM C 0:=by
 have v20:(E.v 20).i ρ=C.ax 0 0:=FmJ.v J rfl
 have v21:(E.v 21).i ρ=C.ax 0 1:=FmJ.v J rfl
 have v22:(E.v 22).i ρ=C.ax 0 2:=FmJ.v J rfl
 have v23:(E.v 23).i ρ=C.ax 0 3:=FmJ.v J rfl
 have v24:(E.v 24).i ρ=C.ax 0 4:=FmJ.v J rfl
 have v25:(E.v 25).i ρ=C.ax 0 5:=FmJ.v J rfl
 have v26:(E.v 26).i ρ=C.ax 0 6:=FmJ.v J rfl
 have v27:(E.v 27).i ρ=C.ax 0 7:=FmJ.v J rfl
 have v28:(E.v 28).i ρ=C.ax 0 8:=FmJ.v J rfl
 have v29:(E.v 29).i ρ=C.ax 0 9:=FmJ.v J rfl
 have v30:(E.v 30).i ρ=C.ax 0 10:=FmJ.v J rfl
 have v31:(E.v 31).i ρ=C.ax 0 11:=FmJ.v J rfl
 have v32:(E.v 32).i ρ=C.ax 0 12:=FmJ.v J rfl
 obtain⟨o0,d0⟩:=Xl J I (show 0<4 by omega) N b
 obtain⟨o1,d1⟩:=Xl J I (show 1<4 by omega) N b
 refine⟨?_,?_⟩
 ·simp only[jd,zy,SV.okL,SV.ok,R.ok,and_true]
  rw[v20,v21,v22,v23,v24,v25,v26,v27,v28,v29,v30,v31,v32]
  exact⟨I.ax 0 0,I.ax 0 1,I.ax 0 2,I.ax 0 3,I.ax 0 4,I.ax 0 5,I.ax 0 6,I.ax 0 7,I.ax 0 8,I.ax 0 9,I.ax 0 10,I.ax 0 11,o0,o1,I.ax 0 12⟩
 ·rw[show SV.denL ρ b (jd 0)=[.int .i64 ((E.v 20).i ρ),.int .i64 ((E.v 21).i ρ),.int .i64 ((E.v 22).i ρ),.int .i64 ((E.v 23).i ρ),.int .i64 ((E.v 24).i ρ),.int .i64 ((E.v 25).i ρ),.int .i64 ((E.v 26).i ρ),.int .i64 ((E.v 27).i ρ),.int .i64 ((E.v 28).i ρ),.int .i64 ((E.v 29).i ρ),.int .i64 ((E.v 30).i ρ),.int .i64 ((E.v 31).i ρ),(qS 0 100).den ρ b,(qS 1 101).den ρ b,.int .i64 ((E.v 32).i ρ)]from by simp only[jd,zy,SV.denL,zh]]
  rw[show(qS 0 100).den ρ b=_ from d0,show(qS 1 101).den ρ b=_ from d1,v20,v21,v22,v23,v24,v25,v26,v27,v28,v29,v30,v31,v32]
  rfl
theorem Xn (J:FmJ C ρ) (I:FsI C w0) (N:Nat->Prop) (b:Bd):SV.okL ρ N (jd 1)/\SV.denL ρ b (jd 1)=axM C 1:=by
 have v40:(E.v 40).i ρ=C.ax 1 0:=FmJ.v J rfl
 have v41:(E.v 41).i ρ=C.ax 1 1:=FmJ.v J rfl
 have v42:(E.v 42).i ρ=C.ax 1 2:=FmJ.v J rfl
 have v43:(E.v 43).i ρ=C.ax 1 3:=FmJ.v J rfl
 have v44:(E.v 44).i ρ=C.ax 1 4:=FmJ.v J rfl
 have v45:(E.v 45).i ρ=C.ax 1 5:=FmJ.v J rfl
 have v46:(E.v 46).i ρ=C.ax 1 6:=FmJ.v J rfl
 have v47:(E.v 47).i ρ=C.ax 1 7:=FmJ.v J rfl
 have v48:(E.v 48).i ρ=C.ax 1 8:=FmJ.v J rfl
 have v49:(E.v 49).i ρ=C.ax 1 9:=FmJ.v J rfl
 have v50:(E.v 50).i ρ=C.ax 1 10:=FmJ.v J rfl
 have v51:(E.v 51).i ρ=C.ax 1 11:=FmJ.v J rfl
 have v52:(E.v 52).i ρ=C.ax 1 12:=FmJ.v J rfl
 obtain⟨o0,d0⟩:=Xl J I (show 2<4 by omega) N b
 obtain⟨o1,d1⟩:=Xl J I (show 3<4 by omega) N b
 refine⟨?_,?_⟩
 ·simp only[jd,zy,SV.okL,SV.ok,R.ok,and_true]
  rw[v40,v41,v42,v43,v44,v45,v46,v47,v48,v49,v50,v51,v52]
  exact⟨I.ax 1 0,I.ax 1 1,I.ax 1 2,I.ax 1 3,I.ax 1 4,I.ax 1 5,I.ax 1 6,I.ax 1 7,I.ax 1 8,I.ax 1 9,I.ax 1 10,I.ax 1 11,o0,o1,I.ax 1 12⟩
 ·rw[show SV.denL ρ b (jd 1)=[.int .i64 ((E.v 40).i ρ),.int .i64 ((E.v 41).i ρ),.int .i64 ((E.v 42).i ρ),.int .i64 ((E.v 43).i ρ),.int .i64 ((E.v 44).i ρ),.int .i64 ((E.v 45).i ρ),.int .i64 ((E.v 46).i ρ),.int .i64 ((E.v 47).i ρ),.int .i64 ((E.v 48).i ρ),.int .i64 ((E.v 49).i ρ),.int .i64 ((E.v 50).i ρ),.int .i64 ((E.v 51).i ρ),(qS 2 102).den ρ b,(qS 3 103).den ρ b,.int .i64 ((E.v 52).i ρ)]from by simp only[jd,zy,SV.denL,zh]]
  rw[show(qS 2 102).den ρ b=_ from d0,show(qS 3 103).den ρ b=_ from d1,v40,v41,v42,v43,v44,v45,v46,v47,v48,v49,v50,v51,v52]
  rfl
theorem qt (ρ:Env) (b:Bd):∀l m:List SV,SV.denL ρ b (l++m)=SV.denL ρ b l++SV.denL ρ b m
 |[],m=>rfl
 |a::l,m=>by simp only[List.cons_append,SV.denL,qt ρ b l m]
theorem qu {ρ:Env} {N:Nat->Prop}:∀ {l m:List SV},SV.okL ρ N l->SV.okL ρ N m->SV.okL ρ N (l++m)
 |[],m,_,h=>h
 |a::l,m,h,h'=>⟨h.1,qu h.2 h'⟩
theorem xS (J:FmJ C ρ) (I:FsI C w0) (N:Nat->Prop) (b:Bd):jo.ok ρ N/\jo.den ρ b=qd C:=by
 obtain⟨a1,a2⟩:=Xm J I N b
 obtain⟨b1,b2⟩:=Xn J I N b
 have v60:(E.v 60).i ρ=C.lim:=FmJ.v J rfl
 have v61:(E.v 61).i ρ=C.con:=FmJ.v J rfl
 refine⟨?_,?_⟩
 ·show SV.okL ρ N (jd 0++jd 1++[zy 60,zy 61])
  refine qu (qu a1 b1) ?_
  simp only[zy,SV.okL,SV.ok,R.ok,and_true]
  rw[v60,v61]
  exact⟨I.lim,I.con⟩
 ·unfold jo qd
  rw[zA,qt,qt,a2,b2]
  simp only[SV.denL,zy,zh,v60,v61]
theorem Xo {F:FuncId} {mk:Nat->SV} {mv:Int->Value} (J:FmJ C ρ) (I:FsI C w0) (hmk:∀n b,(mk n).den ρ b=mv ((kE n).i ρ)) (hmo:∀n N,0<=(kE n).i ρ->(kE n).i ρ<=5->(mk n).ok ρ N)
  (hc:∀(g d:GD) (lo hi no pu su tr ra sl li co wa tu bu:Int) (w:World),g.ks=[true]->d.ks=[true]->g.n<=1000->d.n<=1000->B64 lo->B64 hi->B64 no->B64 pu->B64 su->B64 tr->B64 ra->B64 sl->B64 li->B64 co->B64 wa->B64 tu->B64 bu->g.ok w->d.ok w->Calls Tryz.prog F #[.agg #[.int .i64 lo,.int .i64 hi,.int .i64 no,.int .i64 pu,.int .i64 su,.int .i64 tr,.int .i64 ra,.int .i64 sl,.int .i64 li,.int .i64 co,.int .i64 wa,.int .i64 tu,.slice g.A g.n g.c,.slice d.A d.n d.c,.int .i64 bu]] w fun e w'=>e= .returned (mv (xI (zC g.f g.n d.f d.n) (zX d.f d.n) lo hi no pu su tr ra sl li co wa tu bu))/\Below w.heap.size w w'):HOK Tryz.prog ρ (zb F (Qc mk)):=by
 refine zo fun args gs v hp hg b base w N hok hm hbase=>?_
 have main:∀k,k<2->(SV.denL ρ b (jd k)=axM C k)->Calls Tryz.prog F #[.agg (axM C k).toArray] w fun e w'=>e= .returned (mv (C.pax k))/\Below w.heap.size w w':=fun k hk _=>by
  have n0:=I.n (2*k) (by omega)
  have n1:=I.n (2*k+1) (by omega)
  exact hc (C.G (2*k)) (C.G (2*k+1)) _ _ _ _ _ _ _ _ _ _ _ _ _ w (I.ks _ (by omega)) (I.ks _ (by omega)) (by omega) (by omega) (I.ax k 0) (I.ax k 1) (I.ax k 2) (I.ax k 3) (I.ax k 4) (I.ax k 5) (I.ax k 6) (I.ax k 7) (I.ax k 8) (I.ax k 9) (I.ax k 10) (I.ax k 11) (I.ax k 12) (J.std.row I.ok hm hbase _) (J.std.row I.ok hm hbase _)
 unfold Qc at hp
 split at hp
 ·rename_i hs
  cases hp
  have:=SV.sameL_eq _ _ hs
  subst this
  have e:=(Xm J I N b).2
  have hk:(kE 600).i ρ=C.pax 0:=FmJ.k J rfl
  have hb:=C.pax_bd 0
  refine Calls.mono ?_ (fun e w' (h:e= .returned (mv (C.pax 0))/\Below w.heap.size w w')=>⟨by rw[h.1,hmk,hk],hmo 600 N (by omega) (by omega),h.2⟩)
  rw[show(SV.denL ρ b [.agg (jd 0)]).toArray=#[.agg (axM C 0).toArray]from by simp only[SV.denL,zA,e]]
  exact main 0 (by omega) e
 ·split at hp
  ·rename_i hs
   cases hp
   have:=SV.sameL_eq _ _ hs
   subst this
   have e:=(Xn J I N b).2
   have hk:(kE 601).i ρ=C.pax 1:=FmJ.k J rfl
   have hb:=C.pax_bd 1
   refine Calls.mono ?_ (fun e w' (h:e= .returned (mv (C.pax 1))/\Below w.heap.size w w')=>⟨by rw[h.1,hmk,hk],hmo 601 N (by omega) (by omega),h.2⟩)
   rw[show(SV.denL ρ b [.agg (jd 1)]).toArray=#[.agg (axM C 1).toArray]from by simp only[SV.denL,zA,e]]
   exact main 1 (by omega) e
  ·cases hp
theorem Xp {F:FuncId} {mk:Nat->SV} {mv:Int->Value} (J:FmJ C ρ) (hmk:∀n b,(mk n).den ρ b=mv ((kE n).i ρ)) (hmo:∀n N,0<=(kE n).i ρ->(kE n).i ρ<=5->(mk n).ok ρ N)
  (hc:∀(l c:Int) (w:World),Calls Tryz.prog F #[.agg #[.int .i64 l,.int .i64 c]] w fun e w'=>e= .returned (mv (qr l c))/\w.alloc (.cells #[.int .i64 l,.int .i64 c] 88)=w'):HOK Tryz.prog ρ (zb F (Qd mk)):=by
 refine zo fun args gs v hp hg b base w N hok hm hbase=>?_
 unfold Qd at hp
 split at hp
 ·rename_i hs
  cases hp
  have:=SV.sameL_eq _ _ hs
  subst this
  have hk:(kE 602).i ρ=qr C.lim C.con:=FmJ.k J rfl
  have hb:=C.pv_bd
  have v60:(E.v 60).i ρ=C.lim:=FmJ.v J rfl
  have v61:(E.v 61).i ρ=C.con:=FmJ.v J rfl
  rw[show(SV.denL ρ b [.agg [zy 60,zy 61]]).toArray=#[.agg #[.int .i64 C.lim,.int .i64 C.con]]from by simp only[SV.denL,zA,zy,zh,v60,v61]]
  refine(hc C.lim C.con w).mono fun e w' h=>⟨by rw[h.1,hmk,hk],hmo 602 N (by omega) (by omega),?_⟩
  rw[<-h.2]
  exact Below.alloc (Below.refl _ _) (Nat.le_refl _) _
 ·cases hp
theorem Jp (n:Nat) (b:Bd):(m5 n).den ρ b= .int .i64 ((kE n).i ρ):=by simp only[m5,kI,zh]
theorem WK (n:Nat) (N:Nat->Prop) (h0:0<=(kE n).i ρ) (h1:(kE n).i ρ<=5):(m5 n).ok ρ N:=⟨h0,h1⟩
theorem xT (h:ρ.et=44) (n:Nat) (b:Bd):(Vn n).den ρ b=qp ((kE n).i ρ):=k8 ρ h _ b
theorem v8 (n:Nat) (N:Nat->Prop) (h0:0<=(kE n).i ρ) (h1:(kE n).i ρ<=5):(Vn n).ok ρ N:=⟨h0,h1⟩
theorem zeP (J:FmJ C ρ) (I:FsI C w0):HOK Tryz.prog ρ zgu:=
 zc (Xo J I (mv:=fun z=> .int .i64 z) Jp WK fun g d lo hi no pu su tr ra sl li co wa tu bu w hk hk' hn hn' b0 b1 b2 b3 b4 b5 b6 b7 b8 b9 b10 b11 b12 o o'=>zh9 g d hk hk' hn hn' lo hi no pu su tr ra sl li co wa tu bu b0 b1 b2 b3 b4 b5 b6 b7 b8 b9 b10 b11 b12 w o o')
 (zc (Xp J (mv:=fun z=> .int .i64 z) Jp WK fun l c w=>m9 l c w)
 (zc (Xo J I (mv:=qp) (xT J.std.et) v8 fun g d lo hi no pu su tr ra sl li co wa tu bu w hk hk' hn hn' b0 b1 b2 b3 b4 b5 b6 b7 b8 b9 b10 b11 b12 o o'=>zaC g d hk hk' hn hn' lo hi no pu su tr ra sl li co wa tu bu b0 b1 b2 b3 b4 b5 b6 b7 b8 b9 b10 b11 b12 w o o')
 (zc (Xp J (mv:=qp) (xT J.std.et) v8 fun l c w=>kW l c w) (zP _ _))))
theorem Xq (C:Frm):∃ρ,FmJ C ρ/\ρ.mn=fun _ _=>[]:=by
 obtain⟨ρ,J⟩:=Jm.start (fun _ id _=>C.fnM id) noB C.G C.ivM C.bvM
 exact⟨ρ,⟨J.std,J.at_,J.bt⟩,J.mn⟩
theorem ZU (a b:Int):(if(!(decide (a=0)))=true then a else b)=por a b:=by
 unfold por
 by_cases h:a=0<;>simp[h]
theorem WL (a b c:Int):por a (por b c)=por (por a b) c:=by
 unfold por
 by_cases h:a=0<;>simp[h]
theorem zkH (a:Int):por a 0=a:=by
 unfold por
 split<;>omega
theorem wM (I:FsI C w0):Calls Tryz.prog 19 #[qd C] w0 fun e w'=>e= .returned (.int .i64 C.pcr)/\Below w0.heap.size w0 w':=by
 obtain⟨ρ0,J0,N0⟩:=Xq C
 obtain⟨ρ,hs,hy,key⟩:=Qg zgN zb1 ρ0
 have J:=J0.same hs
 obtain⟨a1,a2⟩:=xS J I (· <0) ⟨fun _=>0,fun _=>0,fun _=>0⟩
 have h:=key J.std.et (zeP J I) ⟨fun _=>0,fun _=>0,fun _=>0⟩ w0 ⟨a1,trivial⟩ (J.mem (hs.mn.trans N0) I.ok)
 rw[show(SV.denL ρ ⟨fun _=>0,fun _=>0,fun _=>0⟩ [jo]).toArray=#[qd C]from by simp only[SV.denL,a2]]at h
 refine h.mono ?_
 rintro e w' ⟨⟨b',y1⟩,y2⟩
 refine⟨?_,y2⟩
 rw[zb2]at hy
 obtain⟨q1,q2,_⟩:=hy
 have f0:ρ.fn 600 []=C.pax 0:=FmJ.k J rfl
 have f1:ρ.fn 601 []=C.pax 1:=FmJ.k J rfl
 have f2:ρ.fn 602 []=qr C.lim C.con:=FmJ.k J rfl
 rw[f0,f1]at q1
 rw[q1,f2]at q2
 simp only[ZU,zkH]at q2
 have hr:znU.den ρ b'= .int .i64 (zpB.i ρ):=by unfold znU;rw[zh];rfl
 rw[y1,hr,znV,q2]
 rfl
theorem Xr (I:FsI C w0):Calls Tryz.prog 45 #[qd C] w0 fun e w'=>e= .returned (qp C.pcr)/\Below w0.heap.size w0 w':=by
 obtain⟨ρ0,J0,N0⟩:=Xq C
 obtain⟨ρ,hs,hy,key⟩:=Qg zgO zb3 ρ0
 have J:=J0.same hs
 obtain⟨a1,a2⟩:=xS J I (· <0) ⟨fun _=>0,fun _=>0,fun _=>0⟩
 have h:=key J.std.et (zeP J I) ⟨fun _=>0,fun _=>0,fun _=>0⟩ w0 ⟨a1,trivial⟩ (J.mem (hs.mn.trans N0) I.ok)
 rw[show(SV.denL ρ ⟨fun _=>0,fun _=>0,fun _=>0⟩ [jo]).toArray=#[qd C]from by simp only[SV.denL,a2]]at h
 refine h.mono ?_
 rintro e w' ⟨⟨b',y1⟩,y2⟩
 refine⟨?_,y2⟩
 have f0:ρ.fn 600 []=C.pax 0:=FmJ.k J rfl
 have f1:ρ.fn 601 []=C.pax 1:=FmJ.k J rfl
 have f2:ρ.fn 602 []=qr C.lim C.con:=FmJ.k J rfl
 have hr:zpD.den ρ b'=qp (zpE.i ρ):=k8 ρ J.std.et _ b'
 rw[y1,hr,znW,f0,f1,f2,ZU,ZU,WL]
 rfl
end
end Go.Proofs.YtoakpnoajmngmaaGreatDoor.Sx
namespace Go.Proofs.YtoakpnoajmngmaaGreatDoor.Sx
open Go.RowKit
variable {C:Frm} {bad words:Int} {ρ:Env}
structure FsW (C:Frm) (bad:Int) (f:Nat->Nat) (ρ:Env):Prop where
 mn:ρ.mn=fun k i=>if k=0/\i=0 then(List.range (C.G 6).n).map fun j=>Value.int .u32 (f j)else if k=1/\i=0 then[jZ]else[]
 es:ρ.es=fun k i=>if k=0/\i=0 then((C.G 6).A,0,0)else if k=1/\i=0 then(some ⟨0,0,none⟩,0,0)else(none,0,0)
 L:C.L=gath f (C.G 6).n
 bad:bad=vK f (C.G 6).n
 f32:∀k,f k<4294967296
theorem FsW.cells {f:Nat->Nat} (W:FsW C bad f ρ) {base:Nat->Prop} {w:World} (hm:Mem ρ base w) (hb:∀k,base k->k<w.heap.size):kj w (C.G 6).A (C.G 6).n f:=by
 intro k hk
 have:=hm.2 0 0 k (.int .u32 (f k)) (by rw[W.mn];simp[hk])
 rw[W.es]at this
 obtain⟨p,off,h1,h2,h3⟩:=this
 exact⟨W.f32 k,p,off,h1,hb p h2,h3⟩
def zeQ (n0:Nat) (w':World) (v:Value) (L:List Rd):Prop:=∃g cap,∃arr:Array Value,v= .slice (some ⟨g,0,none⟩) L.length cap/\n0<=g/\w'.heap[g]? =some (.cells arr 136 (0,0))/\∀(i:Nat) (x:Int),(Frm.rdI L)[i]? =some x->arr[i]? =some (.int .i64 x)
theorem WM {n0:Nat} {w:World} {L:List Rd} {g cap:Nat} {arr:Array Value} (h:xM w (.slice (some ⟨g,0,none⟩) L.length cap) L) (hg:n0<=g) (ha:w.heap[g]? =some (.cells arr 136 (0,0))):zeQ n0 w (.slice (some ⟨g,0,none⟩) L.length cap) L:=by
 refine⟨g,cap,arr,rfl,hg,ha,fun i x hx=>?_⟩
 obtain⟨A,c,hv,hc⟩:=h
 obtain⟨r,hr,hx⟩:=XD L i x hx
 obtain⟨b,off,h1,h2,h3,h4,h5,h6⟩:=hc _ r hr
 have hA:some (⟨g,0,none⟩:Addr)=A:=by injection hv
 rw[<-hA]at h1
 cases h1
 have hi:i=i/4*4+i%4:=by omega
 simp only[World.cell?,ha,Nat.zero_add]at h3 h4 h5 h6
 rw[hi]
 rcases hx with⟨e,rfl⟩|⟨e,rfl⟩|⟨e,rfl⟩|⟨e,rfl⟩<;>rw[e]
 ·simpa using h3
 ·simpa using h4
 ·simpa using h5
 ·simpa using h6
theorem HRel.newRow {b:Bd} {base:Nat->Prop} {w w':World} {H:List (Nat × HEnt)} {nx:Nat} (h:HRel ρ b base w H (· <nx)) (hbase:(∀k,base k->k<w.heap.size)) (hbel:Below w.heap.size w w') {L:List Rd} {v:Value} (hv:zeQ w.heap.size w' v L) {id:Nat} (hfl:ρ.fl id []=Frm.rdI L) {len:R} (hl:len.e.i ρ=L.length):
  ∃b',v=(SV.slv nx 0 len).den ρ b'/\zM b b' (· <nx)/\HRel ρ b' base w' (push H nx ⟨[],⟨[],136,.row id⟩⟩) (· <nx+1):=by
 obtain⟨bl,c,arr,rfl,h1,h2,h5⟩:=hv
 have hn:¬(nx<nx):=Nat.lt_irrefl _
 have ha:zM b (b.put nx bl 0 c) (· <nx):=Bd.put_agree b _ _ _ hn
 have hm:=h.mono (w':=w') (M:=(· <nx+1)) ha (fun n h=>Nat.lt_succ_of_lt h) (fun k hk=>hbel.block k hk) hbase
 have hput:(b.put nx bl 0 c).β nx=bl:=by simp[Bd.put]
 refine⟨b.put nx bl 0 c,by simp[SV.den,Bd.put,hl],ha,?_,?_⟩
 ·intro n e hf hg
  rw[qF]at hf
  split at hf
  ·rename_i hnn
   subst hnn
   cases hf
   exact⟨Nat.lt_succ_self _,⟨by simp[Bd.put],by rw[hput];exact fun hc=>by have:=hbase _ hc;omega,rfl,arr,by rw[hput];exact h2,by rw[hfl];exact h5⟩,trivial⟩
  ·exact hm.mem n e hf hg
 ·intro n m e k hf hkf hg hgk ho hok heq
  rw[qF]at hf hkf
  split at hf
  ·rename_i hnn
   subst hnn
   split at hkf
   ·rename_i hmm;exact hmm
   ·exfalso
    obtain⟨h1',h2',_⟩:=h.mem m k hkf hgk
    have h3':=(ha m h1').1
    rw[hput]at heq
    rw[h3']at heq
    have:=(h2'.base hok).2.1
    omega
  ·split at hkf
   ·rename_i hmm
    subst hmm
    exfalso
    obtain⟨h1',h2',_⟩:=h.mem n e hf hg
    have h3':=(ha n h1').1
    rw[hput,h3']at heq
    have:=(h2'.base ho).2.1
    omega
   ·exact hm.inj n m e k hf hkf hg hgk ho hok heq
theorem FsJ.gath (J:FsJ C bad words ρ):yk.i ρ=C.L.length/\(kE 501).i ρ=bad/\ρ.fl 900 []=Frm.rdI C.L:=⟨J.k (id:=500) rfl,J.k (id:=501) rfl,by rw[J.fl];rfl⟩
theorem Jr (J:FsJ C bad words ρ) {r:R} {N:Nat->Prop} {b:Bd} (hok:SV.okL ρ N [SV.osl 6 [] r]) (h64:r.hi<=64):(SV.denL ρ b [SV.osl 6 [] r]).toArray=#[.slice (C.G 6).A (C.G 6).n (C.G 6).c]/\(C.G 6).n<=64:=by
 have h1:=wN J hok.1 b
 obtain⟨⟨⟨r0,r1⟩,r2,r3,r4⟩,_⟩:=hok
 rw[J.j.std.ol]at r4
 exact⟨by simp only[SV.denL,h1],by have:((C.G 6).n:Int)<=64:=by rw[<-r4];omega
                                   omega⟩
theorem WN {f:Nat->Nat} (J:FsJ C bad words ρ) (h:C.Good) (W:FsW C bad f ρ):HOK Tryz.prog ρ Yb:=by
 intro pc fu args H nx r vs hs hpc hv b base w0 w hH hmem hbel hbase hargs
 unfold Yb at hs
 split at hs
 ·rename_i hk
  have:=Nat.eq_of_beq_eq_true hk
  subst this
  split at hs
  ·rename_i len
   split at hs
   ·rename_i h64
    have h64:=of_decide_eq_true h64
    cases hs
    obtain⟨hd,hn⟩:=Jr J hargs h64 (b:=b)
    rw[hd]
    obtain⟨g1,g2,g3⟩:=J.gath
    have hbl:=mR f (C.G 6).n
    refine(Y1 (C.G 6).A (C.G 6).c (C.G 6).n f w hn (W.cells (hmem.kept hbel) hbase)).mono ?_
    rintro e w' ⟨⟨v,rfl,y1,g,cap,rfl,y2,arr,y3⟩,y4⟩
    have hgr:=WM (W.L▸y1) y2 y3
    have hlen:(gath f (C.G 6).n).length=C.L.length:=by rw[W.L]
    obtain⟨b',z1,z2,z3⟩:=hH.newRow hbase y4 (v:= .slice (some ⟨g,0,none⟩) C.L.length cap) hgr (id:=900) g3 (len:=xp) g1
    refine⟨b',?_,z2,z3,⟨⟨Nat.lt_succ_self _,⟨?_,?_⟩,?_⟩,⟨?_,?_⟩,trivial,trivial⟩,hbel.trans ((Kept.of y4).mono hbase),fun k hk=>Nat.lt_of_lt_of_le (hbase k hk) y4.size,Nat.le_succ _⟩
    ·show Ending.returned _= .returned (.tuple (SV.denL ρ b' [.slv nx 0 xp,.int .i64 Qb,.nili]).toArray)
     simp only[SV.denL,<-z1,zh,Qb,g2,W.bad,hlen]
     rfl
    ·show(0:Int)<=yk.i ρ;rw[g1];omega
    ·show yk.i ρ<=(64:Int);rw[g1];have:=h.len;omega
    ·exact Int.le_refl _
    ·show(0:Int)<=(kE 501).i ρ;rw[g2,W.bad];omega
    ·show(kE 501).i ρ<=(64:Int);rw[g2,W.bad];omega
   ·cases hs
  ·cases hs
 ·cases hs
theorem K3 {f:Nat->Nat} {e:Bool} (J:FsJ C bad words ρ) (h:C.Good) (W:FsW C bad f ρ) (he:if e=true then C.L=[]else C.L≠ []):HOK Tryz.prog ρ (wR e):=by
 intro pc fu args H nx r vs hs hpc hv b base w0 w hH hmem hbel hbase hargs
 unfold wR at hs
 split at hs
 ·rename_i hk
  have:=Nat.eq_of_beq_eq_true hk
  subst this
  split at hs
  ·rename_i len
   split at hs
   ·rename_i h64
    have h64:=of_decide_eq_true h64
    obtain⟨hd,hn⟩:=Jr J hargs h64 (b:=b)
    rw[hd]
    obtain⟨g1,g2,g3⟩:=J.gath
    have hbl:=mR f (C.G 6).n
    refine(KB (C.G 6).A (C.G 6).c (C.G 6).n f w (by omega) (W.cells (hmem.kept hbel) hbase)).mono ?_
    rintro x w' ⟨⟨v,rfl,y1,y2⟩,y4⟩
    cases e
    ·rw[if_neg (by simp)]at he
     cases hs
     rw[<-W.L]at y1
     have hpos:0<C.L.length:=by
      rcases hL:C.L with _|⟨a,l⟩
      ·exact absurd hL he
      ·simp
     have hrow:=xM.own y1 rfl
     rcases y1.2 with⟨_,h0⟩|⟨g,cap,cur,rfl,q1,q2,_⟩
     ·omega
     ·have hgr:=WM hrow q1 q2
      obtain⟨b',z1,z2,z3⟩:=hH.newRow hbase y4 hgr (id:=900) g3 (len:=xp) g1
      refine⟨b',?_,z2,z3,⟨⟨Nat.lt_succ_self _,⟨?_,?_⟩,?_⟩,⟨?_,?_⟩,trivial⟩,hbel.trans ((Kept.of y4).mono hbase),fun k hk=>Nat.lt_of_lt_of_le (hbase k hk) y4.size,Nat.le_succ _⟩
      ·show Ending.returned _= .returned (.tuple (SV.denL ρ b' [.slv nx 0 xp,.int .i64 Qb]).toArray)
       simp only[SV.denL,<-z1,zh,Qb,g2,W.bad]
      ·show(0:Int)<=yk.i ρ;rw[g1];omega
      ·show yk.i ρ<=(64:Int);rw[g1];have:=h.len;omega
      ·exact Int.le_refl _
      ·show(0:Int)<=(kE 501).i ρ;rw[g2,W.bad];omega
      ·show(kE 501).i ρ<=(64:Int);rw[g2,W.bad];omega
    ·rw[if_pos rfl]at he
     cases hs
     have hv:=y2.out (W.L▸he)
     subst hv
     have hm:=hH.mono (w':=w') (M:=(· <nx+1)) (b':=b) (fun n _=>⟨rfl,rfl,rfl⟩) (fun n h=>Nat.lt_succ_of_lt h) (fun k hk=>y4.block k hk) hbase
     refine⟨b,?_,fun n _=>⟨rfl,rfl,rfl⟩,hm,⟨trivial,⟨?_,?_⟩,trivial⟩,hbel.trans ((Kept.of y4).mono hbase),fun k hk=>Nat.lt_of_lt_of_le (hbase k hk) y4.size,Nat.le_succ _⟩
     ·show Ending.returned _= .returned (.tuple (SV.denL ρ b [.nils,.int .i64 Qb]).toArray)
      simp only[SV.denL,SV.den,Qb,g2,W.bad]
     ·show(0:Int)<=(kE 501).i ρ;rw[g2,W.bad];omega
     ·show(kE 501).i ρ<=(64:Int);rw[g2,W.bad];omega
   ·cases hs
  ·cases hs
 ·cases hs
end Go.Proofs.YtoakpnoajmngmaaGreatDoor.Sx
namespace Go.Proofs.YtoakpnoajmngmaaGreatDoor.Sx
open Go.RowKit
structure FsBd (C:Frm) (words:Int):Prop where
 n:∀k,k<2->C.N k=C.N k
 ax:∀k,k<2->(-100000<=C.ax k 0/\C.ax k 0<=0)/\(0<=C.ax k 1/\C.ax k 1<=100000)/\(0<=C.ax k 2/\C.ax k 2<=1000)/\(0<=C.ax k 3/\C.ax k 3<=1000)/\(1<=C.ax k 5/\C.ax k 5<=1000)/\(1<=C.ax k 6/\C.ax k 6<=1000)/\(0<=C.ax k 7/\C.ax k 7<=1000)/\(0<=C.ax k 8/\C.ax k 8<=1000000)/\(1<=C.ax k 9/\C.ax k 9<=10)/\(1<=C.ax k 10/\C.ax k 10<=10)/\(0<=C.ax k 11/\C.ax k 11<=1000)/\(0<=C.ax k 12/\C.ax k 12<=65536)
 sv:∀k,k<2->(C.G (4+k)).n=C.N k
 w:(C.G 6).n<=64
 wk:(C.G 6).ks=[]
 words:words=(C.G 6).n
def axV (C:Frm) (k:Nat):List Value:=[.int .i64 (C.ax k 0),.int .i64 (C.ax k 1),.int .i64 (C.ax k 2),.int .i64 (C.ax k 3),.int .i64 (C.N k),.int .i64 (C.ax k 5),.int .i64 (C.ax k 6),.int .i64 (C.ax k 7),.int .i64 (C.ax k 8),.int .i64 (C.ax k 9),.int .i64 (C.ax k 10),.int .i64 (C.ax k 11),.slice (C.G (2*k)).A (C.G (2*k)).n (C.G (2*k)).c,.slice (C.G (2*k+1)).A (C.G (2*k+1)).n (C.G (2*k+1)).c,.int .i64 (C.ax k 12)]
def bkV (C:Frm) (k:Nat):List Value:=[.int .i64 (C.bk k 0),.int .i64 (C.bk k 1),.int .i64 (C.bk k 2),.bool (C.bo k 0),.bool (C.bo k 1),.bool (C.bo k 2),.int .i64 (C.bk k 6)]
def hdV (C:Frm) (k:Nat):List Value:=[.int .i64 (C.hd k 0),.int .i64 (C.hd k 1),.int .i64 (C.hd k 2)]
def svV (C:Frm) (k:Nat):Value:= .slice (C.G (4+k)).A (C.G (4+k)).n (C.G (4+k)).c
def WO (C:Frm):Value:= .agg (axV C 0++axV C 1++[Value.int .i64 C.lim,Value.int .i64 C.con]).toArray
def qD (C:Frm):Value:= .agg (bkV C 0++bkV C 1++bkV C 2++[svV C 0,svV C 1]++hdV C 0++hdV C 1++[Value.int .i64 C.law]).toArray
def Zg (C:Frm):Value:= .slice (C.G 6).A (C.G 6).n (C.G 6).c
def Js (C:Frm):List Value:=[WO C,qD C,Zg C]
variable {C:Frm} {bad words:Int} {ρ:Env}
theorem WP {w:World} (J:FsJ C bad words ρ) (h:C.Good) (G:FsG C w) (D:FsBd C words) (N:Nat->Prop) (b:Bd):SV.okL ρ N (jE C.N)/\SV.denL ρ b (jE C.N)=Js C:=by
 have v20:(E.v 20).i ρ=C.ax 0 0:=J.v rfl
 have v21:(E.v 21).i ρ=C.ax 0 1:=J.v rfl
 have v22:(E.v 22).i ρ=C.ax 0 2:=J.v rfl
 have v23:(E.v 23).i ρ=C.ax 0 3:=J.v rfl
 have v25:(E.v 25).i ρ=C.ax 0 5:=J.v rfl
 have v26:(E.v 26).i ρ=C.ax 0 6:=J.v rfl
 have v27:(E.v 27).i ρ=C.ax 0 7:=J.v rfl
 have v28:(E.v 28).i ρ=C.ax 0 8:=J.v rfl
 have v29:(E.v 29).i ρ=C.ax 0 9:=J.v rfl
 have v30:(E.v 30).i ρ=C.ax 0 10:=J.v rfl
 have v31:(E.v 31).i ρ=C.ax 0 11:=J.v rfl
 have v32:(E.v 32).i ρ=C.ax 0 12:=J.v rfl
 have v40:(E.v 40).i ρ=C.ax 1 0:=J.v rfl
 have v41:(E.v 41).i ρ=C.ax 1 1:=J.v rfl
 have v42:(E.v 42).i ρ=C.ax 1 2:=J.v rfl
 have v43:(E.v 43).i ρ=C.ax 1 3:=J.v rfl
 have v45:(E.v 45).i ρ=C.ax 1 5:=J.v rfl
 have v46:(E.v 46).i ρ=C.ax 1 6:=J.v rfl
 have v47:(E.v 47).i ρ=C.ax 1 7:=J.v rfl
 have v48:(E.v 48).i ρ=C.ax 1 8:=J.v rfl
 have v49:(E.v 49).i ρ=C.ax 1 9:=J.v rfl
 have v50:(E.v 50).i ρ=C.ax 1 10:=J.v rfl
 have v51:(E.v 51).i ρ=C.ax 1 11:=J.v rfl
 have v52:(E.v 52).i ρ=C.ax 1 12:=J.v rfl
 have v60:(E.v 60).i ρ=C.lim:=J.v rfl
 have v61:(E.v 61).i ρ=C.con:=J.v rfl
 have v110:(E.v 110).i ρ=C.bk 0 0:=J.v rfl
 have v111:(E.v 111).i ρ=C.bk 0 1:=J.v rfl
 have v112:(E.v 112).i ρ=C.bk 0 2:=J.v rfl
 have v116:(E.v 116).i ρ=C.bk 0 6:=J.v rfl
 have v120:(E.v 120).i ρ=C.bk 1 0:=J.v rfl
 have v121:(E.v 121).i ρ=C.bk 1 1:=J.v rfl
 have v122:(E.v 122).i ρ=C.bk 1 2:=J.v rfl
 have v126:(E.v 126).i ρ=C.bk 1 6:=J.v rfl
 have v130:(E.v 130).i ρ=C.bk 2 0:=J.v rfl
 have v131:(E.v 131).i ρ=C.bk 2 1:=J.v rfl
 have v132:(E.v 132).i ρ=C.bk 2 2:=J.v rfl
 have v136:(E.v 136).i ρ=C.bk 2 6:=J.v rfl
 have v150:(E.v 150).i ρ=C.hd 0 0:=J.v rfl
 have v151:(E.v 151).i ρ=C.hd 0 1:=J.v rfl
 have v152:(E.v 152).i ρ=C.hd 0 2:=J.v rfl
 have v160:(E.v 160).i ρ=C.hd 1 0:=J.v rfl
 have v161:(E.v 161).i ρ=C.hd 1 1:=J.v rfl
 have v162:(E.v 162).i ρ=C.hd 1 2:=J.v rfl
 have v170:(E.v 170).i ρ=C.law:=J.v rfl
 have b113:(E.bv 113).b ρ=C.bo 0 0:=J.b rfl
 have b114:(E.bv 114).b ρ=C.bo 0 1:=J.b rfl
 have b115:(E.bv 115).b ρ=C.bo 0 2:=J.b rfl
 have b123:(E.bv 123).b ρ=C.bo 1 0:=J.b rfl
 have b124:(E.bv 124).b ρ=C.bo 1 1:=J.b rfl
 have b125:(E.bv 125).b ρ=C.bo 1 2:=J.b rfl
 have b133:(E.bv 133).b ρ=C.bo 2 0:=J.b rfl
 have b134:(E.bv 134).b ρ=C.bo 2 1:=J.b rfl
 have b135:(E.bv 135).b ρ=C.bo 2 2:=J.b rfl
 obtain⟨o0,d0⟩:=J.j.std.osl G.ok (k:=0) (sh:=[.int .i64 (-9223372036854775808) 9223372036854775807]) (by rw[G.ks 0 (by omega)];rfl) (by rw[G.ks 0 (by omega)];decide) (e:= .v 100) (lo:=0) (hi:=20) (J.v rfl) (Int.le_refl _) (Int.natCast_nonneg _) (by have:=G.n 0 (by omega);omega) N b
 obtain⟨o1,d1⟩:=J.j.std.osl G.ok (k:=1) (sh:=[.int .i64 (-9223372036854775808) 9223372036854775807]) (by rw[G.ks 1 (by omega)];rfl) (by rw[G.ks 1 (by omega)];decide) (e:= .v 101) (lo:=0) (hi:=20) (J.v rfl) (Int.le_refl _) (Int.natCast_nonneg _) (by have:=G.n 1 (by omega);omega) N b
 obtain⟨o2,d2⟩:=J.j.std.osl G.ok (k:=2) (sh:=[.int .i64 (-9223372036854775808) 9223372036854775807]) (by rw[G.ks 2 (by omega)];rfl) (by rw[G.ks 2 (by omega)];decide) (e:= .v 102) (lo:=0) (hi:=20) (J.v rfl) (Int.le_refl _) (Int.natCast_nonneg _) (by have:=G.n 2 (by omega);omega) N b
 obtain⟨o3,d3⟩:=J.j.std.osl G.ok (k:=3) (sh:=[.int .i64 (-9223372036854775808) 9223372036854775807]) (by rw[G.ks 3 (by omega)];rfl) (by rw[G.ks 3 (by omega)];decide) (e:= .v 103) (lo:=0) (hi:=20) (J.v rfl) (Int.le_refl _) (Int.natCast_nonneg _) (by have:=G.n 3 (by omega);omega) N b
 obtain⟨o4,d4⟩:=J.j.std.osl G.ok (k:=4) (sh:=[.int .i64 (-9223372036854775808) 9223372036854775807,.int .i64 (-9223372036854775808) 9223372036854775807,.bool]) (by rw[G.sv 4 (by omega)];rfl) (by rw[G.sv 4 (by omega)];decide) (e:= .c (C.N 0)) (lo:=C.N 0) (hi:=C.N 0) (by have:=D.sv 0 (by omega);show(C.N 0:Int)=_;rw[show C.G 4=C.G (4+0)from rfl,this]) (by omega) (by have:=D.sv 0 (by omega);rw[show C.G 4=C.G (4+0)from rfl,this];omega) (by have:=D.sv 0 (by omega);rw[show C.G 4=C.G (4+0)from rfl,this];omega) N b
 obtain⟨o5,d5⟩:=J.j.std.osl G.ok (k:=5) (sh:=[.int .i64 (-9223372036854775808) 9223372036854775807,.int .i64 (-9223372036854775808) 9223372036854775807,.bool]) (by rw[G.sv 5 (by omega)];rfl) (by rw[G.sv 5 (by omega)];decide) (e:= .c (C.N 1)) (lo:=C.N 1) (hi:=C.N 1) (by have:=D.sv 1 (by omega);show(C.N 1:Int)=_;rw[show C.G 5=C.G (4+1)from rfl,this]) (by omega) (by have:=D.sv 1 (by omega);rw[show C.G 5=C.G (4+1)from rfl,this];omega) (by have:=D.sv 1 (by omega);rw[show C.G 5=C.G (4+1)from rfl,this];omega) N b
 have hw:=D.w
 obtain⟨o6,d6⟩:=J.j.std.osl G.ok (k:=6) (sh:=[]) (by rw[D.wk];rfl) (by rw[D.wk];decide) (e:= .v 180) (lo:=0) (hi:=64) ((J.v rfl).trans D.words) (Int.le_refl _) (Int.natCast_nonneg _) (by omega) N b
 obtain⟨q00,q01,q02,q03,q05,q06,q07,q08,q09,q010,q011,q012⟩:=D.ax 0 (by omega)
 obtain⟨q10,q11,q12,q13,q15,q16,q17,q18,q19,q110,q111,q112⟩:=D.ax 1 (by omega)
 obtain⟨l1,l2,l3,l4⟩:=h.vote 2 (by omega)
 replace l1:0<=C.lim:=l1
 replace l2:C.lim<=1000000:=l2
 replace l3:1<=C.con:=l3
 replace l4:C.con<=10:=l4
 obtain⟨r0,r0a,r0b⟩:=h.bank 0 (by omega)
 have r00:=r0 0 (by omega)
 have r01:=r0 1 (by omega)
 have r02:=r0 2 (by omega)
 obtain⟨r1,r1a,r1b⟩:=h.bank 1 (by omega)
 have r10:=r1 0 (by omega)
 have r11:=r1 1 (by omega)
 have r12:=r1 2 (by omega)
 obtain⟨r2,r2a,r2b⟩:=h.bank 2 (by omega)
 have r20:=r2 0 (by omega)
 have r21:=r2 1 (by omega)
 have r22:=r2 2 (by omega)
 have s0:=h.held 0 (by omega)
 have m0:=Frm.most_is h (show 0<2 by omega)
 have s1:=h.held 1 (by omega)
 have m1:=Frm.most_is h (show 1<2 by omega)
 have hl:=h.law
 refine⟨?_,?_⟩
 ·show(SV.ok ρ N (gR C.N))/\SV.ok ρ N (gT C.N)/\SV.ok ρ N xD/\True
  refine⟨?_,?_,o6,trivial⟩
  ·show SV.okL ρ N (qn 0 (C.N 0)++qn 1 (C.N 1)++[vi 60 0 1000000,vi 61 1 10])
   simp only[qn,vi,nR,List.cons_append,List.nil_append,SV.okL,SV.ok,R.ok,E.i,and_true]
   simp only[E.i]at v20 v21 v22 v23 v25 v26 v27 v28 v29 v30 v31 v32 v40 v41 v42 v43 v45 v46 v47 v48 v49 v50 v51 v52 v60 v61 v110 v111 v112 v116 v120 v121 v122 v126 v130 v131 v132 v136 v150 v151 v152 v160 v161 v162 v170
   simp only[v20,v21,v22,v23,v25,v26,v27,v28,v29,v30,v31,v32,v40,v41,v42,v43,v45,v46,v47,v48,v49,v50,v51,v52,v60,v61]
   exact⟨q00,q01,q02,q03,⟨Int.le_refl _,Int.le_refl _⟩,q05,q06,q07,q08,q09,q010,q011,o0,o1,q012,q10,q11,q12,q13,⟨Int.le_refl _,Int.le_refl _⟩,q15,q16,q17,q18,q19,q110,q111,o2,o3,q112,⟨l1,l2⟩,⟨l3,l4⟩⟩
  ·show SV.okL ρ N (jD 0++jD 1++jD 2++[zV 0 (C.N 0),zV 1 (C.N 1)]++ym 0++ym 1++[vi 170 0 3])
   simp only[jD,zV,ym,vi,nR,List.cons_append,List.nil_append,SV.okL,SV.ok,R.ok,E.i,and_true]
   simp only[E.i]at v20 v21 v22 v23 v25 v26 v27 v28 v29 v30 v31 v32 v40 v41 v42 v43 v45 v46 v47 v48 v49 v50 v51 v52 v60 v61 v110 v111 v112 v116 v120 v121 v122 v126 v130 v131 v132 v136 v150 v151 v152 v160 v161 v162 v170
   simp only[v110,v111,v112,v116,v120,v121,v122,v126,v130,v131,v132,v136,v150,v151,v152,v160,v161,v162,v170]
   exact⟨r00,r01,r02,trivial,trivial,trivial,⟨r0a,r0b⟩,r10,r11,r12,trivial,trivial,trivial,⟨r1a,r1b⟩,r20,r21,r22,trivial,trivial,trivial,⟨r2a,r2b⟩,o4,o5,⟨by omega,by omega⟩,⟨by omega,by omega⟩,⟨by omega,by omega⟩,⟨by omega,by omega⟩,⟨by omega,by omega⟩,⟨by omega,by omega⟩,hl⟩
 ·rw[show SV.denL ρ b (jE C.N)=[.agg #[.int .i64 ((E.v 20).i ρ),.int .i64 ((E.v 21).i ρ),.int .i64 ((E.v 22).i ρ),.int .i64 ((E.v 23).i ρ),.int .i64 ((E.c (C.N 0)).i ρ),.int .i64 ((E.v 25).i ρ),.int .i64 ((E.v 26).i ρ),.int .i64 ((E.v 27).i ρ),.int .i64 ((E.v 28).i ρ),.int .i64 ((E.v 29).i ρ),.int .i64 ((E.v 30).i ρ),.int .i64 ((E.v 31).i ρ),(qS 0 100).den ρ b,(qS 1 101).den ρ b,.int .i64 ((E.v 32).i ρ),.int .i64 ((E.v 40).i ρ),.int .i64 ((E.v 41).i ρ),.int .i64 ((E.v 42).i ρ),.int .i64 ((E.v 43).i ρ),.int .i64 ((E.c (C.N 1)).i ρ),.int .i64 ((E.v 45).i ρ),.int .i64 ((E.v 46).i ρ),.int .i64 ((E.v 47).i ρ),.int .i64 ((E.v 48).i ρ),.int .i64 ((E.v 49).i ρ),.int .i64 ((E.v 50).i ρ),.int .i64 ((E.v 51).i ρ),(qS 2 102).den ρ b,(qS 3 103).den ρ b,.int .i64 ((E.v 52).i ρ),.int .i64 ((E.v 60).i ρ),.int .i64 ((E.v 61).i ρ)],.agg #[.int .i64 ((E.v 110).i ρ),.int .i64 ((E.v 111).i ρ),.int .i64 ((E.v 112).i ρ),.bool ((E.bv 113).b ρ),.bool ((E.bv 114).b ρ),.bool ((E.bv 115).b ρ),.int .i64 ((E.v 116).i ρ),.int .i64 ((E.v 120).i ρ),.int .i64 ((E.v 121).i ρ),.int .i64 ((E.v 122).i ρ),.bool ((E.bv 123).b ρ),.bool ((E.bv 124).b ρ),.bool ((E.bv 125).b ρ),.int .i64 ((E.v 126).i ρ),.int .i64 ((E.v 130).i ρ),.int .i64 ((E.v 131).i ρ),.int .i64 ((E.v 132).i ρ),.bool ((E.bv 133).b ρ),.bool ((E.bv 134).b ρ),.bool ((E.bv 135).b ρ),.int .i64 ((E.v 136).i ρ),(zV 0 (C.N 0)).den ρ b,(zV 1 (C.N 1)).den ρ b,.int .i64 ((E.v 150).i ρ),.int .i64 ((E.v 151).i ρ),.int .i64 ((E.v 152).i ρ),.int .i64 ((E.v 160).i ρ),.int .i64 ((E.v 161).i ρ),.int .i64 ((E.v 162).i ρ),.int .i64 ((E.v 170).i ρ)],xD.den ρ b]from by simp only[jE,gR,gT,qn,jD,ym,vi,nR,List.cons_append,List.nil_append,SV.denL,zA,zh,jM]]
  rw[show(qS 0 100).den ρ b=_ from d0,show(qS 1 101).den ρ b=_ from d1,show(qS 2 102).den ρ b=_ from d2,show(qS 3 103).den ρ b=_ from d3,show(zV 0 (C.N 0)).den ρ b=_ from d4,show(zV 1 (C.N 1)).den ρ b=_ from d5,show xD.den ρ b=_ from d6,v20,v21,v22,v23,v25,v26,v27,v28,v29,v30,v31,v32,v40,v41,v42,v43,v45,v46,v47,v48,v49,v50,v51,v52,v60,v61,v110,v111,v112,v116,v120,v121,v122,v126,v130,v131,v132,v136,v150,v151,v152,v160,v161,v162,v170,b113,b114,b115,b123,b124,b125,b133,b134,b135]
  rfl
theorem zbD {P:Program} {ρ:Env} {l:List ME} (h:∀e∈l,HOK P ρ (qk [e])):HOK P ρ (qk l):=by
 intro pc f args H nx r vs hr
 unfold qk at hr
 split at hr
 ·rename_i e hf
  have hm:=List.mem_of_find?_eq_some hf
  have hp:=List.find?_some hf
  refine h e hm pc f args H nx r vs ?_
  unfold qk
  simp only[List.find?]
  rw[hp]
  exact hr
 ·cases hr
theorem ZV {P:Program} {et:TypeId} {cfg:Cfg} {ρ:Env} (he:ρ.et=et) (hs:HOK P ρ cfg.sum) {e:ME} (h:e.chk (zH P et cfg (zi P et) 20 [] e.f e.args e.H e.nx)=true):HOK P ρ (qk [e]):=
 Gw he hs fun x hx=>by
  obtain rfl:=List.mem_singleton.1 hx
  exact h
section
variable {f:Nat->Nat} {w0:World}
theorem zqd (J:FsJ C bad words ρ) (h:C.Good) (G:FsG C w0):HOK Tryz.prog ρ (fsR C.N):=
 zc (zga J h) (zc (zgc J) (zc (zbN J h) (zc (zkQ J h) (zc (zkV J h) (zc (zgk J h G) (zc (WX J h) (zc (W4 J h) (zc (zgo J h G) (zc (zgi J h) (zc (zgf J h) (zP _ _)))))))))))
theorem zqe (J:FsJ C bad words ρ) (h:C.Good) (G:FsG C w0) (W:FsW C bad f ρ):HOK Tryz.prog ρ (fsP C.N):=
 zc (WN J h W) (zc (W5 J h) (zc (zf9 J h) (zc (zgb J) (zc (zbM J h) (zc (zkP J h) (zc (zbO J h) (zc (zkU J h) (zc (zgj J h G) (zc (WW J h) (zc (W3 J h) (zc (zgg J h) (zc (zgn J h G) (zc (zgh J h) (zc (zge J h) (zP _ _)))))))))))))))
structure FsE (C:Frm) (bad words:Int) (f:Nat->Nat) (ρ:Env):Prop where
 j:Jq (fun _ id _=>C.fnS bad id) (fun _ id _=>C.fbS id) C.G (C.ivS words) C.bvS ρ
 fl:ρ.fl=fun id _=>if id=900 then Frm.rdI C.L else[]
 mn:ρ.mn=fun k i=>if k=0/\i=0 then(List.range (C.G 6).n).map fun j=>Value.int .u32 (f j)else if k=1/\i=0 then[jZ]else[]
 es:ρ.es=fun k i=>if k=0/\i=0 then((C.G 6).A,0,0)else if k=1/\i=0 then(some ⟨0,0,none⟩,0,0)else(none,0,0)
theorem FsE.same {ρ ρ':Env} (h:FsE C bad words f ρ) (hs:Same ρ ρ' [] []):FsE C bad words f ρ':=⟨h.j.same hs,hs.fl.trans h.fl,hs.mn.trans h.mn,hs.es.trans h.es⟩
theorem Vd {N:Nat->Nat} {ρ:Env} (h:qA ρ (zQ N)):∀e∈j9 N,e.big ziK=true->ρ.iv (zal e)=e.i ρ:=by
 unfold zQ at h
 generalize j9 N=l at*
 induction l with
 |nil=>intro e he;cases he
 |cons a l ih=>
  rw[List.flatMap_cons]at h
  intro e he hb
  have hsplit:∀ {x y:List VC},qA ρ (x++y)->qA ρ x/\qA ρ y:=by
   intro x y hxy
   induction x with
   |nil=>exact⟨trivial,hxy⟩
   |cons v x ihx=>exact⟨⟨hxy.1,(ihx hxy.2).1⟩,(ihx hxy.2).2⟩
  obtain⟨h1,h2⟩:=hsplit h
  rcases List.mem_cons.1 he with rfl|he
  ·unfold zpz at h1
   rw[if_pos hb]at h1
   exact h1.1
  ·exact ih h2 e he hb
theorem FsE.toJ {ρ:Env} (h:FsE C bad words f ρ) (hn:qA ρ (zQ C.N)):FsJ C bad words ρ:=⟨h.j,h.fl,Vd hn⟩
theorem FsE.mem {ρ:Env} {w:World} (E:FsE C bad words f ρ) (G:FsG C w) (hw:kj w (C.G 6).A (C.G 6).n f) (hl:ErrLaid w):Mem ρ (· <w.heap.size) w:=by
 refine⟨?_,?_⟩
 ·intro k i v hv
  rw[E.j.std.mv]at hv
  obtain⟨h1,h2,h3,h4⟩:=yi hv
  obtain⟨bl,off,e1,e2,e3⟩:=(G.ok k).cell _ _ h1 h2
  rw[E.j.std.ov]
  exact⟨bl,off,e1,e2,by rw[h4,h3];exact e3⟩
 ·intro k i q v hv
  simp only[E.mn]at hv
  simp only[E.es]
  by_cases hc:k=0/\i=0
  ·rw[if_pos hc]at hv
   rw[if_pos hc]
   rw[List.getElem?_map,Option.map_eq_some_iff]at hv
   obtain⟨j,hj,rfl⟩:=hv
   obtain⟨hjn,hjq⟩:=List.getElem?_eq_some_iff.1 hj
   simp only[List.length_range]at hjn
   simp only[List.getElem_range]at hjq
   subst hjq
   obtain⟨_,b,off,z1,z2,z3⟩:=hw q hjn
   exact⟨b,off,z1,z2,z3⟩
  ·rw[if_neg hc]at hv
   rw[if_neg hc]
   by_cases hc1:k=1/\i=0
   ·rw[if_pos hc1]at hv
    rw[if_pos hc1]
    match q,hv with
    |0,hv=>
     have hv:some jZ=some v:=hv
     cases hv
     exact⟨0,0,rfl,hl.lt,hl⟩
    |q+1,hv=>simp at hv
   ·rw[if_neg hc1]at hv
    simp at hv
theorem zbE (C:Frm) (bad words:Int) (f:Nat->Nat):∃ρ,FsE C bad words f ρ:=
 ⟨{ja 44 (C.ivS words) C.bvS (fun id _=>C.fnS bad id) (fun id _=>C.fbS id) (fun id _=>if id=900 then Frm.rdI C.L else[]) C.G with
   mn:=fun k i=>if k=0/\i=0 then(List.range (C.G 6).n).map fun j=>Value.int .u32 (f j)else if k=1/\i=0 then[jZ]else[]
   es:=fun k i=>if k=0/\i=0 then((C.G 6).A,0,0)else if k=1/\i=0 then(some ⟨0,0,none⟩,0,0)else(none,0,0)},
  ⟨⟨⟨rfl,rfl,rfl,rfl,rfl,rfl⟩,fun _ _=>rfl,fun _ _=>rfl⟩,rfl,rfl,rfl⟩⟩
theorem kM {a b:Nat} {q:Nat->Nat} (hN:C.N=nn a b) (K:FsOk a b q)
  (h:C.Good) (G:FsG C w0) (D:FsBd C words) (hw:kj w0 (C.G 6).A (C.G 6).n f) (hf32:∀k,f k<4294967296) (hCL:C.L=gath f (C.G 6).n)
  (hl:ErrLaid w0) (hmay:∀ρ,FsE C bad words f ρ->FsJ C bad words ρ->HOK Tryz.prog ρ (zb0 C.N)) (hbad:bad=vK f (C.G 6).n):
  Calls Tryz.prog 3 (Js C).toArray w0 fun x w'=>x= .returned (.bool true)/\Below w0.heap.size w0 w':=by
 obtain⟨hL,ht,hf,h1,hd,hr⟩:=K
 rw[<-hN]at hL ht hf h1 hd hr
 obtain⟨ρ0,E0⟩:=zbE C bad words f
 obtain⟨c,vs,r1,r2,r3⟩:=zfs hr
 obtain⟨ρ,hs,hy,hx⟩:=jg hd rfl ρ0
 have E:=E0.same hs
 have J:=E.toJ hy
 have W:FsW C bad f ρ:=⟨E.mn,E.es,hCL,hbad,hf32⟩
 have H0:HOK Tryz.prog ρ (qe C.N):=zc (hmay ρ E J) (zc (zqd J h G) (zqe J h G W))
 have het:ρ.et=44:=J.j.std.et
 have HL:HOK Tryz.prog ρ (qk (fsL a b q)):=Gw het H0 hL
 have hg:∀e:Bool,(if e=true then C.L=[]else C.L≠ [])->HOK Tryz.prog ρ (fsG e):=fun e he=>zc (K3 J h W he) (Vg J h fun h1=>by rw[if_pos h1]at he;exact he)
 have H1:HOK Tryz.prog ρ (qk [xw a b q]):=by
  by_cases hn:C.L=[]
  ·exact ZV het (zc HL (zc (hg true (by rw[if_pos rfl];exact hn)) H0)) ht
  ·exact ZV het (zc HL (zc (hg false (by rw[if_neg (by simp)];exact hn)) H0)) hf
 have H2:HOK Tryz.prog ρ (qk [mT a b q]):=ZV het (zc HL H0) h1
 have HT:HOK Tryz.prog ρ (qk [xw a b q,mT a b q]):=zbD fun e he=>by
  simp only[List.mem_cons,List.not_mem_nil,or_false]at he
  rcases he with rfl|rfl
  ·exact H1
  ·exact H2
 obtain⟨a1,a2⟩:=WP J h G D (· <0) ⟨fun _=>0,fun _=>0,fun _=>0⟩
 have key:=GB het (zc HT H0) r1 (r3 ρ (hx (kT (show ye ρ []from trivial)))) r2 rfl ⟨fun _=>0,fun _=>0,fun _=>0⟩ w0 (qU _ _ _ _) a1 (E.mem G hw hl)
 rw[a2]at key
 exact key
end
end Go.Proofs.YtoakpnoajmngmaaGreatDoor.Sx
namespace Go.Proofs.YtoakpnoajmngmaaGreatDoor.Sx
open Go.RowKit
variable {C:Frm} {bad words:Int} {f:Nat->Nat} {w0:World}
theorem zkI {a b:Nat} (ha:2<=a/\a<=4) (hb:2<=b/\b<=4) (hN:C.N=nn a b) (h:C.Good) (G:FsG C w0) (D:FsBd C words) (hw:kj w0 (C.G 6).A (C.G 6).n f) (hf32:∀k,f k<4294967296) (hCL:C.L=gath f (C.G 6).n)
  (hl:ErrLaid w0) (hmay:∀ρ,FsE C bad words f ρ->FsJ C bad words ρ->HOK Tryz.prog ρ (zb0 C.N)) (hbad:bad=vK f (C.G 6).n):
  Calls Tryz.prog 3 (Js C).toArray w0 fun x w'=>x= .returned (.bool true)/\Below w0.heap.size w0 w':=by
 have hca:a=2\/a=3\/a=4:=by omega
 have hcb:b=2\/b=3\/b=4:=by omega
 rcases hca with rfl|rfl|rfl<;>rcases hcb with rfl|rfl|rfl
 ·exact kM hN zfZ h G D hw hf32 hCL hl hmay hbad
 ·exact kM hN zf0 h G D hw hf32 hCL hl hmay hbad
 ·exact kM hN zf1 h G D hw hf32 hCL hl hmay hbad
 ·exact kM hN zf2 h G D hw hf32 hCL hl hmay hbad
 ·exact kM hN zf3 h G D hw hf32 hCL hl hmay hbad
 ·exact kM hN zf4 h G D hw hf32 hCL hl hmay hbad
 ·exact kM hN zf5 h G D hw hf32 hCL hl hmay hbad
 ·exact kM hN zf6 h G D hw hf32 hCL hl hmay hbad
 ·exact kM hN zf7 h G D hw hf32 hCL hl hmay hbad
end Go.Proofs.YtoakpnoajmngmaaGreatDoor.Sx
namespace Go.Proofs.YtoakpnoajmngmaaGreatDoor.Sx
open Go.RowKit
structure FmE (C:Frm) (ρ:Env):Prop where
 j:FmJ C ρ
 mn:ρ.mn=fun k i=>if k=1/\i=0 then[jZ]else[]
 es:ρ.es=fun k i=>if k=1/\i=0 then(some ⟨0,0,none⟩,0,0)else(none,0,0)
structure PaxOk (C:Frm) (k:Nat):Prop where
 su:2<=C.ax k 4/\C.ax k 4<=4
 pu:0<=C.ax k 3/\C.ax k 3<=1000
 vo:0<=C.ax k 8/\C.ax k 8<=1000000/\1<=C.ax k 9/\C.ax k 9<=10
 act:gD (C.ax k 5) (C.ax k 6) (C.ax k 7) (C.ax k 10)
 gd:zs (C.ax k 0) (C.ax k 1) (C.ax k 2) (C.ax k 3+C.ax k 7) (C.mostS k) ((C.ax k 4-1)*C.ax k 6)=0
 ho:zK (C.ax k 0) (C.ax k 1) (C.ax k 11) (C.ax k 12) (C.mostS k) (zC (C.G (2*k)).f (C.G (2*k)).n (C.G (2*k+1)).f (C.G (2*k+1)).n) (zX (C.G (2*k+1)).f (C.G (2*k+1)).n)=0
 fo:C.ax k 0<=0/\0<=C.ax k 1
theorem zeR {C:Frm} {k:Nat} (h:C.pax k=0):PaxOk C k:=by
 unfold Frm.pax xI my at h
 dsimp only at h
 split at h
 ·rename_i c1
  split at h
  ·rename_i c2
   split at h
   ·rename_i c3
    split at h
    ·rename_i c4
     split at h
     ·rename_i c5
      split at h
      ·omega
      ·rename_i c6
       exact⟨⟨c1.1,c1.2.1⟩,c1.2.2,c2,c3,c4,c5,by omega⟩
     ·rename_i c5;exact absurd h c5
    ·rename_i c4;exact absurd h c4
   ·omega
  ·omega
 ·omega
theorem ZW {lo hi no pu mo ra:Int} (h:zs lo hi no pu mo ra=0):0<=no/\no<=1000:=by
 unfold zs at h
 split at h
 ·omega
 ·omega
theorem Xs {a b:Int} (h:por a b=0):a=0/\b=0:=by
 unfold por at h
 split at h
 ·rename_i h0;exact⟨h0,h⟩
 ·rename_i h0;exact absurd h h0
theorem WQ {C:Frm} (h:C.pcr=0):PaxOk C 0/\PaxOk C 1/\qr C.lim C.con=0:=by
 obtain⟨h1,h2⟩:=Xs h
 obtain⟨h3,h4⟩:=Xs h1
 exact⟨zeR h3,zeR h4,h2⟩
def svs (C:Frm) (k:Nat):Nat->Prop
 |0=>True
 |n+1=>svs C k n/\C.psv k n=0
instance (C:Frm) (k:Nat):∀n,Decidable (svs C k n)
 |0=>inferInstanceAs (Decidable True)
 |n+1=>@instDecidableAnd _ _ (instDecidableSvs C k n) _
def qI (C:Frm) (a b:Nat):Prop:=(0<=C.law/\C.law<=3)/\C.pbk 0=0/\C.pbk 1=0/\C.pbk 2=0/\(a:Int)=C.ax 0 4/\C.phd 0=0/\svs C 0 a/\(b:Int)=C.ax 1 4/\C.phd 1=0/\svs C 1 b
instance (C:Frm) (a b:Nat):Decidable (qI C a b):=by unfold qI;infer_instance
section
variable {C:Frm} {ρ:Env} {w0:World}
theorem FmE.k (E:FmE C ρ) {id:Nat} (h:Nat.blt id 1000=true):(kE id).i ρ=C.fnM id:=E.j.std.f h []
theorem FmE.v (E:FmE C ρ) {n:Nat} (h:Nat.blt n 1000=true):(Sx.E.v n).i ρ=C.ivM n:=E.j.at_ n h
theorem FmE.b (E:FmE C ρ) {n:Nat} (h:Nat.blt n 1000=true):(Sx.E.bv n).b ρ=C.bvM n:=E.j.bt n h
theorem Xt (E:FmE C ρ) (I:FsI C w0) {k:Nat} (hk:k<4) (N:Nat->Prop) (b:Bd):(qS k (100+k)).ok ρ N/\(qS k (100+k)).den ρ b= .slice (C.G k).A (C.G k).n (C.G k).c:=by
 refine E.j.std.osl I.ok (k:=k) (sh:=[.int .i64 (-9223372036854775808) 9223372036854775807]) (by rw[I.ks k hk];rfl) (by rw[I.ks k hk];decide) (e:= .v (100+k)) (lo:=0) (hi:=20) ?_ (Int.le_refl _) (Int.natCast_nonneg _) (by have:=I.n k hk;omega) N b
 rw[E.v (Nat.ble_eq_true_of_le (by omega))]
 unfold Frm.ivM
 rw[if_neg (by omega),if_neg (by omega),if_neg (by omega),if_neg (by omega),if_pos (by omega),show 100+k-100=k by omega]
theorem Jt (E:FmE C ρ) (I:FsI C w0) {k a:Nat} (hk:k=0\/k=1) (ha:(C.G (4+k)).n=a) (N:Nat->Prop) (b:Bd):(zV k a).ok ρ N/\(zV k a).den ρ b=svV C k:=by
 have hs:=I.sv (4+k) (by omega)
 refine E.j.std.osl I.ok (k:=4+k) (sh:=[.int .i64 (-9223372036854775808) 9223372036854775807,.int .i64 (-9223372036854775808) 9223372036854775807,.bool]) (by rw[hs];rfl) (by rw[hs];decide) (e:= .c a) (lo:=a) (hi:=a) ?_ (by omega) (by omega) (by omega) N b
 show(a:Int)=_
 rw[ha]
theorem zbF (E:FmE C ρ) (I:FsI C w0) (A:PaxOk C 0) (N:Nat->Prop) (b:Bd):SV.okL ρ N (j0 0)/\SV.denL ρ b (j0 0)=axM C 0:=by
 have v20:(Sx.E.v 20).i ρ=C.ax 0 0:=E.v rfl
 have v21:(Sx.E.v 21).i ρ=C.ax 0 1:=E.v rfl
 have v22:(Sx.E.v 22).i ρ=C.ax 0 2:=E.v rfl
 have v23:(Sx.E.v 23).i ρ=C.ax 0 3:=E.v rfl
 have v24:(Sx.E.v 24).i ρ=C.ax 0 4:=E.v rfl
 have v25:(Sx.E.v 25).i ρ=C.ax 0 5:=E.v rfl
 have v26:(Sx.E.v 26).i ρ=C.ax 0 6:=E.v rfl
 have v27:(Sx.E.v 27).i ρ=C.ax 0 7:=E.v rfl
 have v28:(Sx.E.v 28).i ρ=C.ax 0 8:=E.v rfl
 have v29:(Sx.E.v 29).i ρ=C.ax 0 9:=E.v rfl
 have v30:(Sx.E.v 30).i ρ=C.ax 0 10:=E.v rfl
 have v31:(Sx.E.v 31).i ρ=C.ax 0 11:=E.v rfl
 have v32:(Sx.E.v 32).i ρ=C.ax 0 12:=E.v rfl
 obtain⟨o0,d0⟩:=Xt E I (show 0<4 by omega) N b
 obtain⟨o1,d1⟩:=Xt E I (show 1<4 by omega) N b
 obtain⟨⟨r1,r2,r3⟩,r4,r5,r6,hpl⟩:=zr A.ho
 obtain⟨f1,f2⟩:=A.fo
 obtain⟨n1,n2⟩:=ZW A.gd
 obtain⟨t1,t2,t3,t4,t5,t6,t7,t8⟩:=A.act
 obtain⟨u1,u2,u3,u4⟩:=A.vo
 obtain⟨s1,s2⟩:=A.su
 obtain⟨p1,p2⟩:=A.pu
 refine⟨?_,?_⟩
 ·simp only[j0,vi,SV.okL,SV.ok,R.ok,and_true]
  rw[v20,v21,v22,v23,v24,v25,v26,v27,v28,v29,v30,v31,v32]
  refine⟨?_,?_,?_,?_,?_,?_,?_,?_,?_,?_,?_,?_,o0,o1,?_⟩<;>omega
 ·rw[show SV.denL ρ b (j0 0)=[.int .i64 ((Sx.E.v 20).i ρ),.int .i64 ((Sx.E.v 21).i ρ),.int .i64 ((Sx.E.v 22).i ρ),.int .i64 ((Sx.E.v 23).i ρ),.int .i64 ((Sx.E.v 24).i ρ),.int .i64 ((Sx.E.v 25).i ρ),.int .i64 ((Sx.E.v 26).i ρ),.int .i64 ((Sx.E.v 27).i ρ),.int .i64 ((Sx.E.v 28).i ρ),.int .i64 ((Sx.E.v 29).i ρ),.int .i64 ((Sx.E.v 30).i ρ),.int .i64 ((Sx.E.v 31).i ρ),(qS 0 100).den ρ b,(qS 1 101).den ρ b,.int .i64 ((Sx.E.v 32).i ρ)]from by simp only[j0,vi,SV.denL,zh]]
  rw[show(qS 0 100).den ρ b=_ from d0,show(qS 1 101).den ρ b=_ from d1,v20,v21,v22,v23,v24,v25,v26,v27,v28,v29,v30,v31,v32]
  rfl
theorem zbG (E:FmE C ρ) (I:FsI C w0) (A:PaxOk C 1) (N:Nat->Prop) (b:Bd):SV.okL ρ N (j0 1)/\SV.denL ρ b (j0 1)=axM C 1:=by
 have v40:(Sx.E.v 40).i ρ=C.ax 1 0:=E.v rfl
 have v41:(Sx.E.v 41).i ρ=C.ax 1 1:=E.v rfl
 have v42:(Sx.E.v 42).i ρ=C.ax 1 2:=E.v rfl
 have v43:(Sx.E.v 43).i ρ=C.ax 1 3:=E.v rfl
 have v44:(Sx.E.v 44).i ρ=C.ax 1 4:=E.v rfl
 have v45:(Sx.E.v 45).i ρ=C.ax 1 5:=E.v rfl
 have v46:(Sx.E.v 46).i ρ=C.ax 1 6:=E.v rfl
 have v47:(Sx.E.v 47).i ρ=C.ax 1 7:=E.v rfl
 have v48:(Sx.E.v 48).i ρ=C.ax 1 8:=E.v rfl
 have v49:(Sx.E.v 49).i ρ=C.ax 1 9:=E.v rfl
 have v50:(Sx.E.v 50).i ρ=C.ax 1 10:=E.v rfl
 have v51:(Sx.E.v 51).i ρ=C.ax 1 11:=E.v rfl
 have v52:(Sx.E.v 52).i ρ=C.ax 1 12:=E.v rfl
 obtain⟨o0,d0⟩:=Xt E I (show 2<4 by omega) N b
 obtain⟨o1,d1⟩:=Xt E I (show 3<4 by omega) N b
 obtain⟨⟨r1,r2,r3⟩,r4,r5,r6,hpl⟩:=zr A.ho
 obtain⟨f1,f2⟩:=A.fo
 obtain⟨n1,n2⟩:=ZW A.gd
 obtain⟨t1,t2,t3,t4,t5,t6,t7,t8⟩:=A.act
 obtain⟨u1,u2,u3,u4⟩:=A.vo
 obtain⟨s1,s2⟩:=A.su
 obtain⟨p1,p2⟩:=A.pu
 refine⟨?_,?_⟩
 ·simp only[j0,vi,SV.okL,SV.ok,R.ok,and_true]
  rw[v40,v41,v42,v43,v44,v45,v46,v47,v48,v49,v50,v51,v52]
  refine⟨?_,?_,?_,?_,?_,?_,?_,?_,?_,?_,?_,?_,o0,o1,?_⟩<;>omega
 ·rw[show SV.denL ρ b (j0 1)=[.int .i64 ((Sx.E.v 40).i ρ),.int .i64 ((Sx.E.v 41).i ρ),.int .i64 ((Sx.E.v 42).i ρ),.int .i64 ((Sx.E.v 43).i ρ),.int .i64 ((Sx.E.v 44).i ρ),.int .i64 ((Sx.E.v 45).i ρ),.int .i64 ((Sx.E.v 46).i ρ),.int .i64 ((Sx.E.v 47).i ρ),.int .i64 ((Sx.E.v 48).i ρ),.int .i64 ((Sx.E.v 49).i ρ),.int .i64 ((Sx.E.v 50).i ρ),.int .i64 ((Sx.E.v 51).i ρ),(qS 2 102).den ρ b,(qS 3 103).den ρ b,.int .i64 ((Sx.E.v 52).i ρ)]from by simp only[j0,vi,SV.denL,zh]]
  rw[show(qS 2 102).den ρ b=_ from d0,show(qS 3 103).den ρ b=_ from d1,v40,v41,v42,v43,v44,v45,v46,v47,v48,v49,v50,v51,v52]
  rfl
theorem ZX (E:FmE C ρ) (I:FsI C w0) (N:Nat->Prop) (b:Bd):SV.okL ρ N (zY 0)/\SV.denL ρ b (zY 0)=bkV C 0:=by
 have v0:(Sx.E.v 110).i ρ=C.bk 0 0:=E.v rfl
 have v1:(Sx.E.v 111).i ρ=C.bk 0 1:=E.v rfl
 have v2:(Sx.E.v 112).i ρ=C.bk 0 2:=E.v rfl
 have v6:(Sx.E.v 116).i ρ=C.bk 0 6:=E.v rfl
 have q0:(Sx.E.bv 113).b ρ=C.bo 0 0:=E.b rfl
 have q1:(Sx.E.bv 114).b ρ=C.bo 0 1:=E.b rfl
 have q2:(Sx.E.bv 115).b ρ=C.bo 0 2:=E.b rfl
 refine⟨?_,?_⟩
 ·simp only[zY,zy,SV.okL,SV.ok,R.ok,and_true]
  rw[v0,v1,v2,v6]
  exact⟨I.bk 0 0,I.bk 0 1,I.bk 0 2,trivial,trivial,trivial,I.bk 0 6⟩
 ·rw[show SV.denL ρ b (zY 0)=[.int .i64 ((Sx.E.v 110).i ρ),.int .i64 ((Sx.E.v 111).i ρ),.int .i64 ((Sx.E.v 112).i ρ),.bool ((Sx.E.bv 113).b ρ),.bool ((Sx.E.bv 114).b ρ),.bool ((Sx.E.bv 115).b ρ),.int .i64 ((Sx.E.v 116).i ρ)]from by simp only[zY,zy,SV.denL,zh,jM],v0,v1,v2,v6,q0,q1,q2]
  rfl
theorem ZY (E:FmE C ρ) (I:FsI C w0) (N:Nat->Prop) (b:Bd):SV.okL ρ N (zY 1)/\SV.denL ρ b (zY 1)=bkV C 1:=by
 have v0:(Sx.E.v 120).i ρ=C.bk 1 0:=E.v rfl
 have v1:(Sx.E.v 121).i ρ=C.bk 1 1:=E.v rfl
 have v2:(Sx.E.v 122).i ρ=C.bk 1 2:=E.v rfl
 have v6:(Sx.E.v 126).i ρ=C.bk 1 6:=E.v rfl
 have q0:(Sx.E.bv 123).b ρ=C.bo 1 0:=E.b rfl
 have q1:(Sx.E.bv 124).b ρ=C.bo 1 1:=E.b rfl
 have q2:(Sx.E.bv 125).b ρ=C.bo 1 2:=E.b rfl
 refine⟨?_,?_⟩
 ·simp only[zY,zy,SV.okL,SV.ok,R.ok,and_true]
  rw[v0,v1,v2,v6]
  exact⟨I.bk 1 0,I.bk 1 1,I.bk 1 2,trivial,trivial,trivial,I.bk 1 6⟩
 ·rw[show SV.denL ρ b (zY 1)=[.int .i64 ((Sx.E.v 120).i ρ),.int .i64 ((Sx.E.v 121).i ρ),.int .i64 ((Sx.E.v 122).i ρ),.bool ((Sx.E.bv 123).b ρ),.bool ((Sx.E.bv 124).b ρ),.bool ((Sx.E.bv 125).b ρ),.int .i64 ((Sx.E.v 126).i ρ)]from by simp only[zY,zy,SV.denL,zh,jM],v0,v1,v2,v6,q0,q1,q2]
  rfl
theorem ZZ (E:FmE C ρ) (I:FsI C w0) (N:Nat->Prop) (b:Bd):SV.okL ρ N (zY 2)/\SV.denL ρ b (zY 2)=bkV C 2:=by
 have v0:(Sx.E.v 130).i ρ=C.bk 2 0:=E.v rfl
 have v1:(Sx.E.v 131).i ρ=C.bk 2 1:=E.v rfl
 have v2:(Sx.E.v 132).i ρ=C.bk 2 2:=E.v rfl
 have v6:(Sx.E.v 136).i ρ=C.bk 2 6:=E.v rfl
 have q0:(Sx.E.bv 133).b ρ=C.bo 2 0:=E.b rfl
 have q1:(Sx.E.bv 134).b ρ=C.bo 2 1:=E.b rfl
 have q2:(Sx.E.bv 135).b ρ=C.bo 2 2:=E.b rfl
 refine⟨?_,?_⟩
 ·simp only[zY,zy,SV.okL,SV.ok,R.ok,and_true]
  rw[v0,v1,v2,v6]
  exact⟨I.bk 2 0,I.bk 2 1,I.bk 2 2,trivial,trivial,trivial,I.bk 2 6⟩
 ·rw[show SV.denL ρ b (zY 2)=[.int .i64 ((Sx.E.v 130).i ρ),.int .i64 ((Sx.E.v 131).i ρ),.int .i64 ((Sx.E.v 132).i ρ),.bool ((Sx.E.bv 133).b ρ),.bool ((Sx.E.bv 134).b ρ),.bool ((Sx.E.bv 135).b ρ),.int .i64 ((Sx.E.v 136).i ρ)]from by simp only[zY,zy,SV.denL,zh,jM],v0,v1,v2,v6,q0,q1,q2]
  rfl
theorem Xu (E:FmE C ρ) (I:FsI C w0) (N:Nat->Prop) (b:Bd):SV.okL ρ N (qT 0)/\SV.denL ρ b (qT 0)=hdV C 0:=by
 have v0:(Sx.E.v 150).i ρ=C.hd 0 0:=E.v rfl
 have v1:(Sx.E.v 151).i ρ=C.hd 0 1:=E.v rfl
 have v2:(Sx.E.v 152).i ρ=C.hd 0 2:=E.v rfl
 refine⟨?_,?_⟩
 ·simp only[qT,zy,SV.okL,SV.ok,R.ok,and_true]
  rw[v0,v1,v2]
  exact⟨I.hd 0 0,I.hd 0 1,I.hd 0 2⟩
 ·rw[show SV.denL ρ b (qT 0)=[.int .i64 ((Sx.E.v 150).i ρ),.int .i64 ((Sx.E.v 151).i ρ),.int .i64 ((Sx.E.v 152).i ρ)]from by simp only[qT,zy,SV.denL,zh],v0,v1,v2]
  rfl
theorem Xv (E:FmE C ρ) (I:FsI C w0) (N:Nat->Prop) (b:Bd):SV.okL ρ N (qT 1)/\SV.denL ρ b (qT 1)=hdV C 1:=by
 have v0:(Sx.E.v 160).i ρ=C.hd 1 0:=E.v rfl
 have v1:(Sx.E.v 161).i ρ=C.hd 1 1:=E.v rfl
 have v2:(Sx.E.v 162).i ρ=C.hd 1 2:=E.v rfl
 refine⟨?_,?_⟩
 ·simp only[qT,zy,SV.okL,SV.ok,R.ok,and_true]
  rw[v0,v1,v2]
  exact⟨I.hd 1 0,I.hd 1 1,I.hd 1 2⟩
 ·rw[show SV.denL ρ b (qT 1)=[.int .i64 ((Sx.E.v 160).i ρ),.int .i64 ((Sx.E.v 161).i ρ),.int .i64 ((Sx.E.v 162).i ρ)]from by simp only[qT,zy,SV.denL,zh],v0,v1,v2]
  rfl
theorem Xw (E:FmE C ρ) (I:FsI C w0) (hc:C.pcr=0) (N:Nat->Prop) (b:Bd):zL.ok ρ N/\zL.den ρ b=qd C:=by
 obtain⟨A,B,hv⟩:=WQ hc
 obtain⟨a1,a2⟩:=zbF E I A N b
 obtain⟨b1,b2⟩:=zbG E I B N b
 have v60:(Sx.E.v 60).i ρ=C.lim:=E.v rfl
 have v61:(Sx.E.v 61).i ρ=C.con:=E.v rfl
 have hv2:0<=C.lim/\C.lim<=1000000/\1<=C.con/\C.con<=10:=by
  unfold qr at hv
  split at hv
  ·assumption
  ·omega
 refine⟨?_,?_⟩
 ·show SV.okL ρ N (j0 0++j0 1++[vi 60 0 1000000,vi 61 1 10])
  refine qu (qu a1 b1) ?_
  simp only[vi,SV.okL,SV.ok,R.ok,and_true]
  rw[v60,v61]
  omega
 ·unfold zL qd
  rw[zA,qt,qt,a2,b2]
  simp only[SV.denL,vi,zh,v60,v61]
theorem zbH (E:FmE C ρ) (I:FsI C w0) {n m:Nat} (hn:(C.G 4).n=n) (hm:(C.G 5).n=m) (N:Nat->Prop) (b:Bd):(zN n m).ok ρ N/\(zN n m).den ρ b=qD C:=by
 obtain⟨a1,a2⟩:=ZX E I N b
 obtain⟨b1,b2⟩:=ZY E I N b
 obtain⟨c1,c2⟩:=ZZ E I N b
 obtain⟨d1,d2⟩:=Jt E I (k:=0) (a:=n) (.inl rfl) hn N b
 obtain⟨e1,e2⟩:=Jt E I (k:=1) (a:=m) (.inr rfl) hm N b
 obtain⟨f1,f2⟩:=Xu E I N b
 obtain⟨g1,g2⟩:=Xv E I N b
 have v170:(Sx.E.v 170).i ρ=C.law:=E.v rfl
 refine⟨?_,?_⟩
 ·show SV.okL ρ N (zY 0++zY 1++zY 2++[zV 0 n,zV 1 m]++qT 0++qT 1++[zy 170])
  refine qu (qu (qu (qu (qu (qu a1 b1) c1) ⟨d1,e1,trivial⟩) f1) g1) ⟨?_,trivial⟩
  simp only[zy,SV.ok,R.ok]
  rw[v170]
  exact I.law
 ·unfold zN qD
  rw[zA,qt,qt,qt,qt,qt,qt,a2,b2,c2,f2,g2]
  simp only[SV.denL,zy,zh,v170,d2,e2]
theorem zkJ (E:FmE C ρ) {a b:Nat} (ha:a=2\/a=3\/a=4) (hb:b=2\/b=3\/b=4):((zb6 a b).all fun x=>x.b ρ)=true↔qI C a b:=by
 have v0:(Sx.E.v 170).i ρ=C.law:=E.v rfl
 have v1:(Sx.E.v 24).i ρ=C.ax 0 4:=E.v rfl
 have v2:(Sx.E.v 44).i ρ=C.ax 1 4:=E.v rfl
 have f0:(kE 610).i ρ=C.pbk 0:=E.k rfl
 have f1:(kE 611).i ρ=C.pbk 1:=E.k rfl
 have f2:(kE 612).i ρ=C.pbk 2:=E.k rfl
 have f3:(kE 620).i ρ=C.phd 0:=E.k rfl
 have f4:(kE 621).i ρ=C.phd 1:=E.k rfl
 have g0:(kE 630).i ρ=C.psv 0 0:=E.k rfl
 have g1:(kE 631).i ρ=C.psv 0 1:=E.k rfl
 have g2:(kE 632).i ρ=C.psv 0 2:=E.k rfl
 have g3:(kE 633).i ρ=C.psv 0 3:=E.k rfl
 have h0:(kE 640).i ρ=C.psv 1 0:=E.k rfl
 have h1:(kE 641).i ρ=C.psv 1 1:=E.k rfl
 have h2:(kE 642).i ρ=C.psv 1 2:=E.k rfl
 have h3:(kE 643).i ρ=C.psv 1 3:=E.k rfl
 rcases ha with rfl|rfl|rfl<;>rcases hb with rfl|rfl|rfl<;>simp only[zb6,qI,svs,List.range,List.range.loop,List.map_cons,List.map_nil,List.cons_append,List.nil_append,List.all_cons,List.all_nil,Bool.and_eq_true,zer,Sx.E.b,show ∀z:Int,(Sx.E.c z).i ρ=z from fun _=>rfl,decide_eq_true_eq,v0,v1,v2,f0,f1,f2,f3,f4,g0,g1,g2,g3,h0,h1,h2,h3,Nat.reduceAdd,and_true,true_and]<;>omega
end
end Go.Proofs.YtoakpnoajmngmaaGreatDoor.Sx
namespace Go.Proofs.YtoakpnoajmngmaaGreatDoor.Sx
open Go.RowKit
theorem FsI.at {C:Frm} {w w':World} (I:FsI C w) (h:∀k,(C.G k).ok w'):FsI C w':=⟨h,I.ks,I.sv,I.n,I.m,I.ax,I.bk,I.hd,I.lim,I.con,I.law⟩
section
variable {C:Frm} {ρ:Env} {w0:World}
theorem FmE.x (E:FmE C ρ) {k j:Nat} (hk:k<2) (hj:j<13):(Sx.x k j).i ρ=C.ax k j:=by
 unfold Sx.x
 rw[E.v (Nat.ble_eq_true_of_le (by omega))]
 unfold Frm.ivM
 obtain rfl|rfl:k=0\/k=1:=by omega
 ·rw[if_pos (by omega)];congr 1;omega
 ·rw[if_neg (by omega),if_pos (by omega)];congr 1;omega
theorem FmE.most (E:FmE C ρ) {k:Nat} (hk:k<2):(XH k).i ρ=C.mostS k:=by
 have h4:=E.x hk (show 4<13 by omega)
 have h5:=E.x hk (show 5<13 by omega)
 unfold Sx.x at h4
 have e:(20+20*k+4:Nat)=24+20*k:=by omega
 rw[e]at h4
 unfold XH Frm.mostS
 show((Sx.E.v (24+20*k)).i ρ-1)*(Sx.x k 5).i ρ=_
 rw[h4,h5]
theorem FmE.sv (E:FmE C ρ) {k j:Nat}:(Sx.E.ap (1400+100*k) (.cons (nE j) .nil)).i ρ=(C.G (4+k)).fi j 0/\(Sx.E.ap (1401+100*k) (.cons (nE j) .nil)).i ρ=(C.G (4+k)).fi j 1/\(Sx.E.ap (1402+100*k) (.cons (nE j) .nil)).b ρ=(C.G (4+k)).fb j 2:=by
 have hf:=E.j.std.fn
 have hb:=E.j.std.fb
 refine⟨?_,?_,?_⟩
 ·show ρ.fn (1400+100*k) [(j:Int)]=_
  rw[hf]
  simp only
  rw[if_pos (by omega),show(1400+100*k-1000)/100=4+k by omega,show(1400+100*k)%100=0 by omega]
  rfl
 ·show ρ.fn (1401+100*k) [(j:Int)]=_
  rw[hf]
  simp only
  rw[if_pos (by omega),show(1401+100*k-1000)/100=4+k by omega,show(1401+100*k)%100=1 by omega]
  rfl
 ·show ρ.fb (1402+100*k) [(j:Int)]=_
  rw[hb]
  simp only
  rw[if_pos (by omega),show(1402+100*k-1000)/100=4+k by omega,show(1402+100*k)%100=2 by omega]
  rfl
theorem FmE.hd (E:FmE C ρ) {k:Nat} (hk:k<2):(Sx.E.v (150+10*k)).i ρ=C.hd k 0/\(Sx.E.v (151+10*k)).i ρ=C.hd k 1/\(Sx.E.v (152+10*k)).i ρ=C.hd k 2:=by
 obtain rfl|rfl:k=0\/k=1:=by omega
 all_goals exact⟨E.v rfl,E.v rfl,E.v rfl⟩
theorem zbI (a b c l:Int):0<=jy a b c l/\jy a b c l<=5:=by
 unfold jy
 split<;>omega
theorem zkK (C:Frm) (k:Nat):0<=C.phd k/\C.phd k<=5:=by
 unfold Frm.phd
 split<;>omega
theorem FmE.pb (E:FmE C ρ) {k:Nat} (hk:k<3):(kE (610+k)).i ρ=C.pbk k:=by
 obtain rfl|rfl|rfl:k=0\/k=1\/k=2:=by omega
 all_goals exact E.k rfl
theorem FmE.ph (E:FmE C ρ) {k:Nat} (hk:k<2):(kE (620+k)).i ρ=C.phd k:=by
 obtain rfl|rfl:k=0\/k=1:=by omega
 all_goals exact E.k rfl
theorem FmE.ps (E:FmE C ρ) {q:Nat} (hq:q<20):(kE (630+q)).i ρ=C.psv (q/10) (q%10):=by
 rw[E.k (Nat.ble_eq_true_of_le (by omega))]
 unfold Frm.fnM
 rw[if_neg (by omega),if_neg (by omega),if_neg (by omega),if_neg (by omega),if_neg (by omega),show 630+q-630=q by omega]
theorem Ju {F:FuncId} {v0:SV} {V:Value} (E:FmE C ρ) (I:FsI C w0) (hc:C.pcr=0) (hv:∀b,v0.den ρ b=V) (ho:∀N,v0.ok ρ N) (hF:∀w,FsI C w->Calls Tryz.prog F #[qd C] w fun e w'=>e= .returned V/\Below w.heap.size w w'):HOK Tryz.prog ρ (zb F (we v0)):=by
 refine zo fun args gs v hp hg b base w N hok hm hbase=>?_
 unfold we at hp
 split at hp
 ·rename_i hs
  cases hp
  have:=SV.sameL_eq _ _ hs
  subst this
  obtain⟨q1,q2⟩:=Xw E I hc N b
  rw[show(SV.denL ρ b [zL]).toArray=#[qd C]from by simp only[SV.denL,q2]]
  exact(hF w (I.at fun k=>E.j.std.row I.ok hm hbase k)).mono fun e w' h=>⟨by rw[h.1,hv],ho N,h.2⟩
 ·cases hp
theorem Xx {F:FuncId} {mk:Nat->SV} {mv:Int->Value} (E:FmE C ρ) (I:FsI C w0) (hmk:∀n b,(mk n).den ρ b=mv ((kE n).i ρ)) (hmo:∀n N,0<=(kE n).i ρ->(kE n).i ρ<=5->(mk n).ok ρ N)
  (hF:∀(c:Nat->Int) (o:Nat->Bool) (l:Int) (w:World),Calls Tryz.prog F #[.agg #[.int .i64 (c 0),.int .i64 (c 1),.int .i64 (c 2),.bool (o 0),.bool (o 1),.bool (o 2),.int .i64 l]] w fun e w'=>e= .returned (mv (jy (c 0) (c 1) (c 2) l))/\Below w.heap.size w w'):HOK Tryz.prog ρ (zb F (Qe mk)):=by
 refine zo fun args gs v hp hg b base w N hok hm hbase=>?_
 have main:∀k,k<3->SV.denL ρ b (zY k)=bkV C k->Calls Tryz.prog F (SV.denL ρ b [.agg (zY k)]).toArray w fun e w'=>e= .returned ((mk (610+k)).den ρ b)/\(mk (610+k)).ok ρ N/\Below w.heap.size w w':=fun k hk hd=>by
  rw[show(SV.denL ρ b [.agg (zY k)]).toArray=#[.agg (bkV C k).toArray]from by simp only[SV.denL,zA,hd]]
  have hv:=E.pb hk
  have hb:=zbI (C.bk k 0) (C.bk k 1) (C.bk k 2) (C.bk k 6)
  have hpk:C.pbk k=jy (C.bk k 0) (C.bk k 1) (C.bk k 2) (C.bk k 6):=rfl
  exact(hF (C.bk k) (C.bo k) (C.bk k 6) w).mono fun e w' h=>⟨by rw[h.1,hmk,hv,hpk],hmo _ N (by omega) (by omega),h.2⟩
 unfold Qe at hp
 split at hp
 ·rename_i hs
  cases hp
  have:=SV.sameL_eq _ _ hs
  subst this
  exact main 0 (by omega) (ZX E I N b).2
 ·split at hp
  ·rename_i hs
   cases hp
   have:=SV.sameL_eq _ _ hs
   subst this
   exact main 1 (by omega) (ZY E I N b).2
  ·split at hp
   ·rename_i hs
    cases hp
    have:=SV.sameL_eq _ _ hs
    subst this
    exact main 2 (by omega) (ZZ E I N b).2
   ·cases hp
theorem Jv {F:FuncId} {mk:Nat->SV} {mv:Int->Value} (E:FmE C ρ) (hmk:∀n b,(mk n).den ρ b=mv ((kE n).i ρ)) (hmo:∀n N,0<=(kE n).i ρ->(kE n).i ρ<=5->(mk n).ok ρ N)
  (hF:∀(t r s c i bd:Int) (o:Bool) (w:World),Calls Tryz.prog F #[.agg #[.int .i64 t,.int .i64 r,.int .i64 s,.int .i64 c],.agg #[.int .i64 i,.int .i64 bd,.bool o]] w fun e w'=>e= .returned (mv (zj t r s c i bd o))/\Below w.heap.size w w'):HOK Tryz.prog ρ (zb F (wh mk)):=by
 refine zo fun args gs v hp hg b base w N hok hm hbase=>?_
 unfold wh at hp
 split at hp
 ·rename_i t r s c i bd o
  split at hp
  ·rename_i q hk
   cases hp
   obtain⟨hmm,hE⟩:=qv hk
   have hq:q<20/\q/10<2:=by
    unfold zpA at hmm
    simp only[List.mem_flatMap,List.mem_range,List.mem_map]at hmm
    obtain⟨k,h1,j,h2,rfl⟩:=hmm
    omega
   obtain⟨hq1,hq2⟩:=hq
   have a5:=E.x hq2 (show 5<13 by omega)
   have a6:=E.x hq2 (show 6<13 by omega)
   have a7:=E.x hq2 (show 7<13 by omega)
   have a10:=E.x hq2 (show 10<13 by omega)
   obtain⟨s0,s1,s2⟩:=E.sv (k:=q/10) (j:=q%10)
   unfold XI ziE svE at hE
   simp only[List.cons_append,List.nil_append,List.cons.injEq,and_true]at hE
   obtain⟨e0,e1,e2,e3,e4,e5,e6⟩:=hE
   have hv:=E.ps hq1
   have hb:=zaD (C.ax (q/10) 5) (C.ax (q/10) 6) (C.ax (q/10) 7) (C.ax (q/10) 10) ((C.G (4+q/10)).fi (q%10) 0) ((C.G (4+q/10)).fi (q%10) 1) ((C.G (4+q/10)).fb (q%10) 2)
   have hpk:C.psv (q/10) (q%10)=zj (C.ax (q/10) 5) (C.ax (q/10) 6) (C.ax (q/10) 7) (C.ax (q/10) 10) ((C.G (4+q/10)).fi (q%10) 0) ((C.G (4+q/10)).fi (q%10) 1) ((C.G (4+q/10)).fb (q%10) 2):=rfl
   rw[show(SV.denL ρ b [.agg [.int .i64 t,.int .i64 r,.int .i64 s,.int .i64 c],.agg [.int .i64 i,.int .i64 bd,.bool o]]).toArray=#[.agg #[.int .i64 (C.ax (q/10) 5),.int .i64 (C.ax (q/10) 6),.int .i64 (C.ax (q/10) 7),.int .i64 (C.ax (q/10) 10)],.agg #[.int .i64 ((C.G (4+q/10)).fi (q%10) 0),.int .i64 ((C.G (4+q/10)).fi (q%10) 1),.bool ((C.G (4+q/10)).fb (q%10) 2)]]from by
    simp only[SV.denL,zA,zh,jM]
    rw[e0,e1,e2,e3,e4,e5,e6,a5,a6,a7,a10,s0,s1,s2]]
   exact(hF _ _ _ _ _ _ _ w).mono fun e w' h=>⟨by rw[h.1,hmk,hv,hpk],hmo _ N (by omega) (by omega),h.2⟩
  ·cases hp
 ·cases hp
theorem WR (E:FmE C ρ) (I:FsI C w0) (hc:C.pcr=0):HOK Tryz.prog ρ (zb 22 Yd):=by
 refine zo fun args gs v hp hg b base w N hok hm hbase=>?_
 obtain⟨PA,PB,_⟩:=WQ hc
 unfold Yd at hp
 split at hp
 ·rename_i lo hi tu bu mo g glo ghi glen d dlo dhi dlen aim held law st is sp al pr
  split at hp
  ·rename_i k hk
   cases hp
   obtain⟨hmm,hE⟩:=qv hk
   have hk2:k<2:=by simp at hmm;omega
   have hph:zK (C.ax k 0) (C.ax k 1) (C.ax k 11) (C.ax k 12) (C.mostS k) (zC (C.G (2*k)).f (C.G (2*k)).n (C.G (2*k+1)).f (C.G (2*k+1)).n) (zX (C.G (2*k+1)).f (C.G (2*k+1)).n)=0:=by
    obtain rfl|rfl:k=0\/k=1:=by omega
    ·exact PA.ho
    ·exact PB.ho
   have a0:=E.x hk2 (show 0<13 by omega)
   have a1:=E.x hk2 (show 1<13 by omega)
   have a11:=E.x hk2 (show 11<13 by omega)
   have a12:=E.x hk2 (show 12<13 by omega)
   have a4:=E.most hk2
   obtain⟨z0,z1,z2⟩:=E.hd hk2
   unfold Mc at hE
   simp only[List.cons.injEq,and_true]at hE
   obtain⟨e0,e1,e2,e3,e4,eg,ed,e5,e6,e7,e8,e9,e10,e11,e12⟩:=hE
   have hgk:g=2*k:=by unfold nE at eg;injection eg with eg;omega
   have hdk:d=2*k+1:=by unfold nE at ed;injection ed with ed;omega
   subst hgk hdk
   obtain⟨⟨_,_,_,_,_,og,od,_⟩,_⟩:=hok
   have g0:=E.j.std.slice og (b:=b)
   have d0:=E.j.std.slice od (b:=b)
   rw[show(SV.denL ρ b [.agg [.int .i64 lo,.int .i64 hi,.int .i64 tu,.int .i64 bu,.int .i64 mo,.osl (2*k) [.int .i64 glo ghi] glen,.osl (2*k+1) [.int .i64 dlo dhi] dlen],.agg [.int .i64 aim,.int .i64 held,.int .i64 law],.agg [.int .i64 st,.int .i64 is,.int .i64 sp,.int .i64 al,.int .i64 pr]]).toArray=#[.agg #[.int .i64 (C.ax k 0),.int .i64 (C.ax k 1),.int .i64 (C.ax k 11),.int .i64 (C.ax k 12),.int .i64 (C.mostS k),.slice (C.G (2*k)).A (C.G (2*k)).n (C.G (2*k)).c,.slice (C.G (2*k+1)).A (C.G (2*k+1)).n (C.G (2*k+1)).c],.agg #[.int .i64 (C.hd k 0),.int .i64 (C.hd k 1),.int .i64 (C.hd k 2)],.agg #[.int .i64 0,.int .i64 0,.int .i64 0,.int .i64 0,.int .i64 0]]from by
    simp only[SV.denL,zA,zh]
    rw[g0,d0,e0,e1,e2,e3,e4,e5,e6,e7,e8,e9,e10,e11,e12,a0,a1,a11,a12,a4,z0,z1,z2]
    rfl]
   have hv:=E.ph hk2
   have hb:=zkK C k
   refine(Vh (C.G (2*k)) (C.G (2*k+1)) _ _ _ _ _ _ _ _ (I.ks _ (by omega)) (I.ks _ (by omega)) (I.n _ (by omega)) (I.n _ (by omega)) (I.hd k 0) (I.hd k 1) (I.hd k 2) w (E.j.std.row I.ok hm hbase _) (E.j.std.row I.ok hm hbase _) hph).mono fun e w' h=>⟨?_,WK _ N (by omega) (by omega),h.2⟩
   rw[h.1,Jp,hv]
   rfl
  ·cases hp
 ·cases hp
theorem Ve (E:FmE C ρ) (I:FsI C w0) (hc:C.pcr=0):HOK Tryz.prog ρ (zb 47 Qf):=by
 refine zo fun args gs v hp hg b base w N hok hm hbase=>?_
 obtain⟨PA,PB,_⟩:=WQ hc
 have hlaid:ErrLaid w:=K8 hm (by rw[E.mn];rfl) (by rw[E.es];rfl)
 unfold Qf at hp
 split at hp
 ·rename_i b0 b1 b2 b3 b4 b5 b6 b7 b8 b9 b10 b11 lo hi tu bu mo g glo ghi glen d dlo dhi dlen aim held law
  split at hp
  ·rename_i k hk
   cases hp
   obtain⟨hmm,hE⟩:=qv hk
   have hk2:k<2:=by simp at hmm;omega
   have hph:zK (C.ax k 0) (C.ax k 1) (C.ax k 11) (C.ax k 12) (C.mostS k) (zC (C.G (2*k)).f (C.G (2*k)).n (C.G (2*k+1)).f (C.G (2*k+1)).n) (zX (C.G (2*k+1)).f (C.G (2*k+1)).n)=0:=by
    obtain rfl|rfl:k=0\/k=1:=by omega
    ·exact PA.ho
    ·exact PB.ho
   obtain⟨⟨r1,r2,r3⟩,r4,r5,r6,hpl⟩:=zr hph
   have a0:=E.x hk2 (show 0<13 by omega)
   have a1:=E.x hk2 (show 1<13 by omega)
   have a11:=E.x hk2 (show 11<13 by omega)
   have a12:=E.x hk2 (show 12<13 by omega)
   have a4:=E.most hk2
   obtain⟨z0,z1,z2⟩:=E.hd hk2
   unfold Md at hE
   simp only[List.cons.injEq,and_true]at hE
   obtain⟨e0,e1,e2,e3,e4,eg,ed,e5,e6,e7⟩:=hE
   have hgk:g=2*k:=by unfold nE at eg;injection eg with eg;omega
   have hdk:d=2*k+1:=by unfold nE at ed;injection ed with ed;omega
   subst hgk hdk
   obtain⟨⟨_,_,_,_,_,_,_,_,_,_,_,_,_,_,_,_,_,og,od,_⟩,_⟩:=hok
   have g0:=E.j.std.slice og (b:=b)
   have d0:=E.j.std.slice od (b:=b)
   rw[show(SV.denL ρ b [.agg [.int .i64 b0,.int .i64 b1,.int .i64 b2,.int .i64 b3,.int .i64 b4,.int .i64 b5,.int .i64 b6,.int .i64 b7,.int .i64 b8,.int .i64 b9,.int .i64 b10,.int .i64 b11,.int .i64 lo,.int .i64 hi,.int .i64 tu,.int .i64 bu,.int .i64 mo,.osl (2*k) [.int .i64 glo ghi] glen,.osl (2*k+1) [.int .i64 dlo dhi] dlen],.agg [.int .i64 aim,.int .i64 held,.int .i64 law]]).toArray=#[.agg #[.int .i64 (b0.e.i ρ),.int .i64 (b1.e.i ρ),.int .i64 (b2.e.i ρ),.int .i64 (b3.e.i ρ),.int .i64 (b4.e.i ρ),.int .i64 (b5.e.i ρ),.int .i64 (b6.e.i ρ),.int .i64 (b7.e.i ρ),.int .i64 (b8.e.i ρ),.int .i64 (b9.e.i ρ),.int .i64 (b10.e.i ρ),.int .i64 (b11.e.i ρ),.int .i64 (C.ax k 0),.int .i64 (C.ax k 1),.int .i64 (C.ax k 11),.int .i64 (C.ax k 12),.int .i64 (C.mostS k),.slice (C.G (2*k)).A (C.G (2*k)).n (C.G (2*k)).c,.slice (C.G (2*k+1)).A (C.G (2*k+1)).n (C.G (2*k+1)).c],.agg #[.int .i64 (C.hd k 0),.int .i64 (C.hd k 1),.int .i64 (C.hd k 2)]]from by
    simp only[SV.denL,zA,zh]
    rw[g0,d0,e0,e1,e2,e3,e4,e5,e6,e7,a0,a1,a11,a12,a4,z0,z1,z2]]
   have hv:=E.ph hk2
   have n1:=I.n (2*k) (by omega)
   have n2:=I.n (2*k+1) (by omega)
   refine(zbS (C.G (2*k)) (C.G (2*k+1)) (I.ks _ (by omega)) (I.ks _ (by omega)) (by omega) (by omega) _ _ _ _ _ _ _ _ _ _ _ _ _ _ _ _ _ _ _ _ (by unfold B64;omega) (by unfold B64;omega) (by unfold B64;omega) (by unfold B64;omega) (by unfold B64;omega) (I.hd k 0) (I.hd k 1) (I.hd k 2) w (E.j.std.row I.ok hm hbase _) (E.j.std.row I.ok hm hbase _) hph hlaid).mono fun e w' h=>⟨?_,trivial,h.2⟩
   rw[h.1,jM]
   have hz:(zer (kE (620+k))).b ρ=decide ((kE (620+k)).i ρ=0):=rfl
   rw[hz,hv]
   refine congrArg (fun z=>Ending.returned (.bool z)) ?_
   refine decide_eq_decide.2 ?_
   show C.phs k↔C.phd k=0
   unfold Frm.phd
   by_cases hp:C.phs k<;>simp[hp]
  ·cases hp
 ·cases hp
theorem zeS (E:FmE C ρ) (I:FsI C w0) (hc:C.pcr=0):HOK Tryz.prog ρ je:=
 zc (Ju E I hc (V:= .int .i64 0) (fun b=>by rw[zh];rfl) (fun N=>⟨Int.le_refl _,Int.le_refl _⟩) fun w I'=>(wM I').mono fun e w' h=>⟨by rw[h.1,hc],h.2⟩)
 (zc (Xx E I (mv:=fun z=> .int .i64 z) Jp WK fun c o l w=>VS c o l w)
 (zc (WR E I hc)
 (zc (Jv E (mv:=fun z=> .int .i64 z) Jp WK fun t r s c i bd o w=>YM t r s c i bd o w)
 (zc (Ju E I hc (V:= .nilIface) (fun b=>rfl) (fun N=>trivial) fun w I'=>(Xr I').mono fun e w' h=>⟨by rw[h.1,hc];rfl,h.2⟩)
 (zc (Xx E I (mv:=qp) (xT E.j.std.et) v8 fun c o l w=>Kt c o l w)
 (zc (Ve E I hc)
 (zc (Jv E (mv:=qp) (xT E.j.std.et) v8 fun t r s c i bd o w=>qZ t r s c i bd o w) (zP _ _))))))))
end
end Go.Proofs.YtoakpnoajmngmaaGreatDoor.Sx
namespace Go.Proofs.YtoakpnoajmngmaaGreatDoor.Sx
open Go.RowKit
def pst (C:Frm):Int:=if C.pcr=0 then(if qI C (C.G 4).n (C.G 5).n then 0 else 3)else C.pcr
section
variable {C:Frm} {ρ:Env} {w0:World}
theorem wd (C:Frm):∃ρ,FmE C ρ:=
 ⟨{ja 44 C.ivM C.bvM (fun id _=>C.fnM id) (fun _ _=>false) (fun _ _=>[]) C.G with
   mn:=fun k i=>if k=1/\i=0 then[jZ]else[]
   es:=fun k i=>if k=1/\i=0 then(some ⟨0,0,none⟩,0,0)else(none,0,0)},
  ⟨⟨⟨rfl,rfl,rfl,rfl,rfl,rfl⟩,fun _ _=>rfl,fun _ _=>rfl⟩,rfl,rfl⟩⟩
theorem FmE.same {ρ':Env} (h:FmE C ρ) (hs:Same ρ ρ' [] []):FmE C ρ':=⟨h.j.same hs,hs.mn.trans h.mn,hs.es.trans h.es⟩
theorem FmE.mem (E:FmE C ρ) (I:FsI C w0) (hl:ErrLaid w0):Mem ρ (· <w0.heap.size) w0:=by
 refine⟨?_,?_⟩
 ·intro k i v hv
  rw[E.j.std.mv]at hv
  obtain⟨h1,h2,h3,h4⟩:=yi hv
  obtain⟨bl,off,e1,e2,e3⟩:=(I.ok k).cell _ _ h1 h2
  rw[E.j.std.ov]
  exact⟨bl,off,e1,e2,by rw[h4,h3];exact e3⟩
 ·intro k i q v hv
  simp only[E.mn]at hv
  simp only[E.es]
  by_cases hc:k=1/\i=0
  ·rw[if_pos hc]at hv
   rw[if_pos hc]
   match q,hv with
   |0,hv=>
    have hv:some jZ=some v:=hv
    cases hv
    exact⟨0,0,rfl,hl.lt,hl⟩
   |q+1,hv=>simp at hv
  ·rw[if_neg hc]at hv
   simp at hv
def bd0:Bd:=⟨fun _=>0,fun _=>0,fun _=>0⟩
theorem WS (E:FmE C ρ) (I:FsI C w0) (hc:C.pcr=0) {a b:Nat} (hn:(C.G 4).n=a) (hm:(C.G 5).n=b):SV.okL ρ (· <0) [zL,zN a b]/\(SV.denL ρ bd0 [zL,zN a b]).toArray=#[qd C,qD C]:=by
 obtain⟨a1,a2⟩:=Xw E I hc (· <0) bd0
 obtain⟨b1,b2⟩:=zbH E I hn hm (· <0) bd0
 exact⟨⟨a1,b1,trivial⟩,by simp only[SV.denL,a2,b2]⟩
theorem Vf {F:FuncId} {er:Bool} {a b:Nat} (r:Qh (zH Tryz.prog 44 (qb je zO 50 100000) (zi Tryz.prog 44) 20 [] F [zL,zN a b] [] 0) er (zb6 a b)=true) (I:FsI C w0) (hl:ErrLaid w0) (hc:C.pcr=0) (hn:(C.G 4).n=a) (hm:(C.G 5).n=b) (ha:a=2\/a=3\/a=4) (hb:b=2\/b=3\/b=4):Calls Tryz.prog F #[qd C,qD C] w0 fun e w'=>e= .returned (stV er (if qI C a b then 0 else 3))/\Below w0.heap.size w0 w':=by
 obtain⟨ρ0,E0⟩:=wd C
 obtain⟨ρ,hs,key⟩:=zll r ρ0
 have E:=E0.same hs
 obtain⟨q1,q2⟩:=WS E I hc hn hm
 have h:=key E.j.std.et (zeS E I hc) bd0 w0 q1 (E.mem I hl)
 rw[q2]at h
 refine h.mono ?_
 rintro e w' ⟨y1,y2⟩
 refine⟨?_,y2⟩
 rw[y1]
 by_cases hp:qI C a b
 ·rw[if_pos hp,if_pos ((zkJ E ha hb).2 hp)]
 ·rw[if_neg hp,if_neg (fun hh=>hp ((zkJ E ha hb).1 hh))]
theorem qh {F:FuncId} {er:Bool} {a b:Nat} (r:wS (zH Tryz.prog 44 (qb je zO 50 100000) (zi Tryz.prog 44) 20 [] F [zL,zN a b] [] 0) er=true) (I:FsI C w0) (hl:ErrLaid w0) (hc:C.pcr=0) (hn:(C.G 4).n=a) (hm:(C.G 5).n=b) (hab:¬(2<=a/\a<=4/\2<=b/\b<=4)):Calls Tryz.prog F #[qd C,qD C] w0 fun e w'=>e= .returned (stV er (if qI C a b then 0 else 3))/\Below w0.heap.size w0 w':=by
 obtain⟨ρ0,E0⟩:=wd C
 obtain⟨ρ,hs,key⟩:=znZ r ρ0
 have E:=E0.same hs
 obtain⟨q1,q2⟩:=WS E I hc hn hm
 have h:=key E.j.std.et (zeS E I hc) bd0 w0 q1 (E.mem I hl)
 rw[q2]at h
 have hp:¬qI C a b:=by
  obtain⟨A,B,_⟩:=WQ hc
  have s0:=A.su
  have s1:=B.su
  rintro⟨_,_,_,_,h4,_,_,h5,_⟩
  omega
 rw[if_neg hp]
 refine h.mono ?_
 rintro e w' ⟨y1,y2⟩
 refine⟨?_,y2⟩
 rw[y1]
 cases er<;>rfl
theorem zqf (I:FsI C w0) (hl:ErrLaid w0) (hc:C.pcr=0):Calls Tryz.prog 6 #[qd C,qD C] w0 fun e w'=>e= .returned (stV false (if qI C (C.G 4).n (C.G 5).n then 0 else 3))/\Below w0.heap.size w0 w':=by
 have m0:=I.m 4 (.inl rfl)
 have m1:=I.m 5 (.inr rfl)
 obtain⟨a,hn⟩:∃a,(C.G 4).n=a:=⟨_,rfl⟩
 obtain⟨b,hm⟩:∃b,(C.G 5).n=b:=⟨_,rfl⟩
 have h9:a=0\/a=1\/a=2\/a=3\/a=4\/a=5\/a=6\/a=7\/a=8\/a=9:=by omega
 have hb9:b<=9:=by omega
 rw[hn,hm]
 rcases h9 with rfl|rfl|rfl|rfl|rfl|rfl|rfl|rfl|rfl|rfl
 ·exact qh (List.all_eq_true.1 znt b (by simp;omega)) I hl hc hn hm (by omega)
 ·exact qh (List.all_eq_true.1 znv b (by simp;omega)) I hl hc hn hm (by omega)
 ·by_cases h2:2<=b/\b<=4
  ·exact Vf (List.all_eq_true.1 zqk b (by simp;omega)) I hl hc hn hm (by omega) (by omega)
  ·exact qh (List.all_eq_true.1 znx b (by simp;omega)) I hl hc hn hm (by omega)
 ·by_cases h2:2<=b/\b<=4
  ·exact Vf (List.all_eq_true.1 zqm b (by simp;omega)) I hl hc hn hm (by omega) (by omega)
  ·exact qh (List.all_eq_true.1 znz b (by simp;omega)) I hl hc hn hm (by omega)
 ·by_cases h2:2<=b/\b<=4
  ·exact Vf (List.all_eq_true.1 zqo b (by simp;omega)) I hl hc hn hm (by omega) (by omega)
  ·exact qh (List.all_eq_true.1 znB b (by simp;omega)) I hl hc hn hm (by omega)
 ·exact qh (List.all_eq_true.1 znD b (by simp;omega)) I hl hc hn hm (by omega)
 ·exact qh (List.all_eq_true.1 znF b (by simp;omega)) I hl hc hn hm (by omega)
 ·exact qh (List.all_eq_true.1 znH b (by simp;omega)) I hl hc hn hm (by omega)
 ·exact qh (List.all_eq_true.1 znJ b (by simp;omega)) I hl hc hn hm (by omega)
 ·exact qh (List.all_eq_true.1 znL b (by simp;omega)) I hl hc hn hm (by omega)
theorem zqg (I:FsI C w0) (hl:ErrLaid w0) (hc:C.pcr=0):Calls Tryz.prog 12 #[qd C,qD C] w0 fun e w'=>e= .returned (stV true (if qI C (C.G 4).n (C.G 5).n then 0 else 3))/\Below w0.heap.size w0 w':=by
 have m0:=I.m 4 (.inl rfl)
 have m1:=I.m 5 (.inr rfl)
 obtain⟨a,hn⟩:∃a,(C.G 4).n=a:=⟨_,rfl⟩
 obtain⟨b,hm⟩:∃b,(C.G 5).n=b:=⟨_,rfl⟩
 have h9:a=0\/a=1\/a=2\/a=3\/a=4\/a=5\/a=6\/a=7\/a=8\/a=9:=by omega
 have hb9:b<=9:=by omega
 rw[hn,hm]
 rcases h9 with rfl|rfl|rfl|rfl|rfl|rfl|rfl|rfl|rfl|rfl
 ·exact qh (List.all_eq_true.1 znu b (by simp;omega)) I hl hc hn hm (by omega)
 ·exact qh (List.all_eq_true.1 znw b (by simp;omega)) I hl hc hn hm (by omega)
 ·by_cases h2:2<=b/\b<=4
  ·exact Vf (List.all_eq_true.1 zql b (by simp;omega)) I hl hc hn hm (by omega) (by omega)
  ·exact qh (List.all_eq_true.1 zny b (by simp;omega)) I hl hc hn hm (by omega)
 ·by_cases h2:2<=b/\b<=4
  ·exact Vf (List.all_eq_true.1 zqn b (by simp;omega)) I hl hc hn hm (by omega) (by omega)
  ·exact qh (List.all_eq_true.1 znA b (by simp;omega)) I hl hc hn hm (by omega)
 ·by_cases h2:2<=b/\b<=4
  ·exact Vf (List.all_eq_true.1 zqp b (by simp;omega)) I hl hc hn hm (by omega) (by omega)
  ·exact qh (List.all_eq_true.1 znC b (by simp;omega)) I hl hc hn hm (by omega)
 ·exact qh (List.all_eq_true.1 znE b (by simp;omega)) I hl hc hn hm (by omega)
 ·exact qh (List.all_eq_true.1 znG b (by simp;omega)) I hl hc hn hm (by omega)
 ·exact qh (List.all_eq_true.1 znI b (by simp;omega)) I hl hc hn hm (by omega)
 ·exact qh (List.all_eq_true.1 znK b (by simp;omega)) I hl hc hn hm (by omega)
 ·exact qh (List.all_eq_true.1 znM b (by simp;omega)) I hl hc hn hm (by omega)
theorem Xy (E:FmE C ρ) (I:FsI C w0) (N:Nat->Prop) (b:Bd):xE.ok ρ N/\xE.den ρ b=qD C:=by
 obtain⟨a1,a2⟩:=ZX E I N b
 obtain⟨b1,b2⟩:=ZY E I N b
 obtain⟨c1,c2⟩:=ZZ E I N b
 obtain⟨f1,f2⟩:=Xu E I N b
 obtain⟨g1,g2⟩:=Xv E I N b
 have v170:(Sx.E.v 170).i ρ=C.law:=E.v rfl
 have m0:=I.m 4 (.inl rfl)
 have m1:=I.m 5 (.inr rfl)
 have h4:=I.sv 4 (.inl rfl)
 have h5:=I.sv 5 (.inr rfl)
 obtain⟨d1,d2⟩:=E.j.std.osl I.ok (k:=4) (sh:=[.int .i64 (-9223372036854775808) 9223372036854775807,.int .i64 (-9223372036854775808) 9223372036854775807,.bool]) (by rw[h4];rfl) (by rw[h4];decide) (e:= .v 104) (lo:=0) (hi:=9) (E.v rfl) (Int.le_refl _) (Int.natCast_nonneg _) (by omega) N b
 obtain⟨e1,e2⟩:=E.j.std.osl I.ok (k:=5) (sh:=[.int .i64 (-9223372036854775808) 9223372036854775807,.int .i64 (-9223372036854775808) 9223372036854775807,.bool]) (by rw[h5];rfl) (by rw[h5];decide) (e:= .v 105) (lo:=0) (hi:=9) (E.v rfl) (Int.le_refl _) (Int.natCast_nonneg _) (by omega) N b
 refine⟨?_,?_⟩
 ·refine qu (qu (qu (qu (qu (qu a1 b1) c1) ⟨d1,e1,trivial⟩) f1) g1) ⟨?_,trivial⟩
  simp only[zy,SV.ok,R.ok]
  rw[v170]
  exact I.law
 ·unfold xE qD
  rw[zA,qt,qt,qt,qt,qt,qt,a2,b2,c2,f2,g2]
  simp only[SV.denL,zy,zh,v170,d2,e2]
  rfl
theorem Jw {F:FuncId} {v0:SV} {V:Value} (E:FmE C ρ) (I:FsI C w0) (hv:∀b,v0.den ρ b=V) (ho:∀N,v0.ok ρ N) (hF:∀w,FsI C w->Calls Tryz.prog F #[qd C] w fun e w'=>e= .returned V/\Below w.heap.size w w'):HOK Tryz.prog ρ (zb F (wi v0)):=by
 refine zo fun args gs v hp hg b base w N hok hm hbase=>?_
 unfold wi at hp
 split at hp
 ·rename_i hs
  cases hp
  have:=SV.sameL_eq _ _ hs
  subst this
  obtain⟨q1,q2⟩:=xS E.j I N b
  rw[show(SV.denL ρ b [jo]).toArray=#[qd C]from by simp only[SV.denL,q2]]
  exact(hF w (I.at fun k=>E.j.std.row I.ok hm hbase k)).mono fun e w' h=>⟨by rw[h.1,hv],ho N,h.2⟩
 ·cases hp
theorem zeT (E:FmE C ρ) (I:FsI C w0) (hc:C.pcr≠0):HOK Tryz.prog ρ zgv:=by
 have hk:(kE 603).i ρ=C.pcr:=E.k rfl
 have hb:=C.pcr_bd
 have hr:R.ok ρ ⟨kE 603,1,5⟩:=⟨by show(1:Int)<=(kE 603).i ρ;omega,by show(kE 603).i ρ<=(5:Int);omega⟩
 refine zc (Jw E I (V:= .int .i64 C.pcr) (fun b=>by rw[kI,zh];rw[hk]) (fun N=>hr) fun w I'=>wM I') (zc (Jw E I (V:=qp C.pcr) (fun b=>?_) (fun N=>hr) fun w I'=>Xr I') (zP _ _))
 show Value.iface _ ((kI 603 1 5).den ρ b)=_
 rw[kI,zh,gI hc,hk]
theorem zqh (I:FsI C w0) (hl:ErrLaid w0) (hc:C.pcr≠0):Calls Tryz.prog 6 #[qd C,qD C] w0 fun e w'=>e= .returned (stV false C.pcr)/\Below w0.heap.size w0 w':=by
 obtain⟨ρ0,E0⟩:=wd C
 obtain⟨ρ,hs,hy,key⟩:=Qg zgP zb4 ρ0
 have E:=E0.same hs
 obtain⟨a1,a2⟩:=xS E.j I (· <0) bd0
 obtain⟨b1,b2⟩:=Xy E I (· <0) bd0
 have h:=key E.j.std.et (zeT E I hc) bd0 w0 ⟨a1,b1,trivial⟩ (E.mem I hl)
 rw[show(SV.denL ρ bd0 [jo,xE]).toArray=#[qd C,qD C]from by simp only[SV.denL,a2,b2]]at h
 refine h.mono ?_
 rintro e w' ⟨⟨b',y1⟩,y2⟩
 refine⟨?_,y2⟩
 have hk:ρ.fn 603 []=C.pcr:=E.k rfl
 have hr:zpG.den ρ b'=stV false (zpH.i ρ):=zh ρ b' _ _
 rw[y1,hr,znX,hk]
theorem xB (I:FsI C w0) (hl:ErrLaid w0):Calls Tryz.prog 6 #[qd C,qD C] w0 fun e w'=>e= .returned (.int .i64 (pst C))/\Below w0.heap.size w0 w':=by
 unfold pst
 by_cases hc:C.pcr=0
 ·rw[if_pos hc];exact zqf I hl hc
 ·rw[if_neg hc];exact zqh I hl hc
theorem zqi (I:FsI C w0) (hl:ErrLaid w0) (hc:C.pcr≠0):Calls Tryz.prog 12 #[qd C,qD C] w0 fun e w'=>e= .returned (stV true C.pcr)/\Below w0.heap.size w0 w':=by
 obtain⟨ρ0,E0⟩:=wd C
 obtain⟨ρ,hs,hy,key⟩:=Qg zgQ zb5 ρ0
 have E:=E0.same hs
 obtain⟨a1,a2⟩:=xS E.j I (· <0) bd0
 obtain⟨b1,b2⟩:=Xy E I (· <0) bd0
 have h:=key E.j.std.et (zeT E I hc) bd0 w0 ⟨a1,b1,trivial⟩ (E.mem I hl)
 rw[show(SV.denL ρ bd0 [jo,xE]).toArray=#[qd C,qD C]from by simp only[SV.denL,a2,b2]]at h
 refine h.mono ?_
 rintro e w' ⟨⟨b',y1⟩,y2⟩
 refine⟨?_,y2⟩
 have hk:ρ.fn 603 []=C.pcr:=E.k rfl
 have hr:znY.den ρ b'=stV true (zng.i ρ):=by rw[show znY= .ifc 44 (.int .i64 ⟨zng,1,5⟩)from rfl];show Value.iface _ (SV.den ρ b' (.int .i64 ⟨zng,1,5⟩))=_;rw[zh];show _=qp _;rw[gI (by rw[zlj];rw[hk];exact hc)]
 rw[y1,hr,zlj,hk]
theorem kN (I:FsI C w0) (hl:ErrLaid w0):Calls Tryz.prog 12 #[qd C,qD C] w0 fun e w'=>e= .returned (qp (pst C))/\Below w0.heap.size w0 w':=by
 unfold pst
 by_cases hc:C.pcr=0
 ·rw[if_pos hc];exact zqg I hl hc
 ·rw[if_neg hc];exact zqi I hl hc
end
end Go.Proofs.YtoakpnoajmngmaaGreatDoor.Sx
namespace Go.Proofs.YtoakpnoajmngmaaGreatDoor.Sx
open Go.RowKit
variable {C:Frm} {bad words:Int} {f:Nat->Nat} {w0:World}
theorem K4 {C:Frm} {k:Nat}:∀ {n:Nat},svs C k n->∀j,j<n->C.psv k j=0
 |0,_,j,h=>absurd h (Nat.not_lt_zero _)
 |n+1,hs,j,h=>by
  rcases Nat.lt_succ_iff_lt_or_eq.1 h with h|rfl
  ·exact K4 hs.1 j h
  ·exact hs.2
theorem zns (h:pst C=0):C.pcr=0/\qI C (C.G 4).n (C.G 5).n:=by
 unfold pst at h
 by_cases hc:C.pcr=0
 ·rw[if_pos hc]at h
  by_cases hp:qI C (C.G 4).n (C.G 5).n
  ·exact⟨hc,hp⟩
  ·rw[if_neg hp]at h;omega
 ·rw[if_neg hc]at h;exact absurd h hc
theorem zkL {C:Frm} {k:Nat} (h:C.phd k=0):C.phs k:=by
 unfold Frm.phd at h
 by_cases hp:C.phs k
 ·exact hp
 ·rw[if_neg hp]at h;omega
theorem zf8 (h:pst C=0) (hN:∀k,k<2->C.N k=(C.G (4+k)).n) (hr:∀r∈C.L,r.Fine) (hl:C.L.length<=64):C.Good/\(∀k,k<2->(C.N k:Int)=C.ax k 4)/\(∀k,k<2->PaxOk C k):=by
 obtain⟨hc,hp⟩:=zns h
 obtain⟨A,B,hv⟩:=WQ hc
 obtain⟨h1,h2,h3,h4,h5,h6,h7,h8,h9,h10⟩:=hp
 have hPA:∀k,k<2->PaxOk C k:=fun k hk=>by
  obtain rfl|rfl:k=0\/k=1:=by omega
  ·exact A
  ·exact B
 have hn:∀k,k<2->(C.N k:Int)=C.ax k 4:=fun k hk=>by
  rw[hN k hk]
  obtain rfl|rfl:k=0\/k=1:=by omega
  ·exact h5
  ·exact h8
 have hm:∀k,k<2->C.most k=C.mostS k:=fun k hk=>by unfold Frm.most Frm.mostS;rw[hn k hk]
 have hrt:∀k,k<2->C.rate k=(C.ax k 4-1)*C.ax k 6:=fun k hk=>by unfold Frm.rate;rw[hn k hk]
 have hv2:0<=C.lim/\C.lim<=1000000/\1<=C.con/\C.con<=10:=by
  unfold qr at hv
  split at hv
  ·assumption
  ·omega
 refine⟨⟨?_,?_,?_,?_,?_,?_,?_,?_,h1,hr,hl⟩,hn,hPA⟩
 ·intro k hk
  have:=hn k hk
  have:=(hPA k hk).su
  omega
 ·exact fun k hk=>(hPA k hk).act
 ·intro k hk
  unfold Frm.vlim Frm.vcon
  by_cases h2:k=2
  ·rw[if_pos h2,if_pos h2];exact hv2
  ·rw[if_neg h2,if_neg h2];exact(hPA k (by omega)).vo
 ·intro k hk
  rw[hm k hk,hrt k hk]
  exact(hPA k hk).gd
 ·intro k hk
  rw[hm k hk]
  exact(hPA k hk).ho
 ·intro k hk
  have hpk:jy (C.bk k 0) (C.bk k 1) (C.bk k 2) (C.bk k 6)=0:=by
   obtain rfl|rfl|rfl:k=0\/k=1\/k=2:=by omega
   ·exact h2
   ·exact h3
   ·exact h4
  exact mD hpk
 ·intro k j hk hj
  rw[hN k hk]at hj
  obtain rfl|rfl:k=0\/k=1:=by omega
  ·exact K4 h7 j hj
  ·exact K4 h10 j hj
 ·intro k hk
  rw[hm k hk]
  have hph:C.phs k:=by
   obtain rfl|rfl:k=0\/k=1:=by omega
   ·exact zkL h6
   ·exact zkL h9
  obtain⟨z1,z2,z3,z4,z5,z6⟩:=hph
  exact⟨z1,z2,z3,z4,z5,z6⟩
theorem Jx (hn:∀k,k<2->(C.N k:Int)=C.ax k 4):WO C=qd C:=by
 unfold WO qd axV axM
 rw[hn 0 (by omega),hn 1 (by omega)]
theorem zkM {F:FuncId} {v0:SV} {V:Value} {ρ:Env} (J:FsJ C bad words ρ) (h:C.Good) (G:FsG C w0) (D:FsBd C words) (hn:∀k,k<2->(C.N k:Int)=C.ax k 4) (I:FsI C w0) (hv:∀b,v0.den ρ b=V) (ho:∀N,v0.ok ρ N)
  (hmn:ρ.mn 1 0=[jZ]) (hes:(ρ.es 1 0).1=some ⟨0,0,none⟩)
  (hF:∀w,FsI C w->ErrLaid w->Calls Tryz.prog F #[qd C,qD C] w fun e w'=>e= .returned V/\Below w.heap.size w w'):HOK Tryz.prog ρ (zb F (zne C.N v0)):=by
 refine zo fun args gs v hp hg b base w N hok hm hbase=>?_
 unfold zne at hp
 split at hp
 ·rename_i hs
  cases hp
  have:=SV.sameL_eq _ _ hs
  subst this
  have e:=(WP J h G D N b).2
  have e2:SV.denL ρ b [gR C.N,gT C.N]=[qd C,qD C]:=by
   have e3:SV.denL ρ b (jE C.N)=[(gR C.N).den ρ b,(gT C.N).den ρ b,xD.den ρ b]:=by simp only[jE,SV.denL]
   rw[e3]at e
   unfold Js at e
   simp only[List.cons.injEq,and_true]at e
   simp only[SV.denL]
   rw[e.1,e.2.1,Jx hn]
  rw[e2]
  exact(hF w (I.at fun k=>J.j.std.row I.ok hm hbase k) (K8 hm hmn hes)).mono fun e w' h=>⟨by rw[h.1,hv],ho N,h.2⟩
 ·cases hp
theorem zkN {ρ:Env} (E:FsE C bad words f ρ) (J:FsJ C bad words ρ) (h:C.Good) (G:FsG C w0) (D:FsBd C words) (hn:∀k,k<2->(C.N k:Int)=C.ax k 4) (I:FsI C w0) (hp:pst C=0):HOK Tryz.prog ρ (zb0 C.N):=by
 have hmn:ρ.mn 1 0=[jZ]:=by rw[E.mn];rfl
 have hes:(ρ.es 1 0).1=some ⟨0,0,none⟩:=by rw[E.es];rfl
 refine zc (zkM J h G D hn I (V:= .int .i64 0) (fun b=>by rw[zh];rfl) (fun N=>⟨Int.le_refl _,Int.le_refl _⟩) hmn hes fun w I' l'=>(xB I' l').mono fun e w' h=>⟨by rw[h.1,hp],h.2⟩) (zkM J h G D hn I (V:= .nilIface) (fun b=>rfl) (fun N=>trivial) hmn hes fun w I' l'=>(kN I' l').mono fun e w' h=>⟨by rw[h.1,hp];rfl,h.2⟩)
theorem zbJ (I:FsI C w0) (hl:ErrLaid w0) (hp:pst C=0) (hN:C.N=nn (C.G 4).n (C.G 5).n) (hw:kj w0 (C.G 6).A (C.G 6).n f) (h64:(C.G 6).n<=64) (hk:(C.G 6).ks=[]) (hf32:∀k,f k<4294967296) (hCL:C.L=gath f (C.G 6).n):
  Calls Tryz.prog 3 #[qd C,qD C,Zg C] w0 fun x w'=>x= .returned (.bool true)/\Below w0.heap.size w0 w':=by
 have hN2:∀k,k<2->C.N k=(C.G (4+k)).n:=fun k hk=>by
  rw[hN]
  obtain rfl|rfl:k=0\/k=1:=by omega
  ·rfl
  ·rfl
 have hlen:C.L.length<=64:=by
  have:=wA f (C.G 6).n
  rw[hCL];omega
 obtain⟨hG,hn,hP⟩:=zf8 hp hN2 (by rw[hCL];exact mQ f _) hlen
 have G:FsG C w0:=⟨I.ok,I.ks,I.sv,I.n⟩
 have D:FsBd C ((C.G 6).n:Int):=by
  refine⟨fun _ _=>rfl,fun k hk=>?_,fun k hk=>(hN2 k hk).symm,h64,hk,rfl⟩
  have A:=hP k hk
  obtain⟨⟨r1,r2,r3⟩,r4,r5,r6,hpl⟩:=zr A.ho
  obtain⟨f1,f2⟩:=A.fo
  obtain⟨n1,n2⟩:=ZW A.gd
  obtain⟨t1,t2,t3,t4,t5,t6,t7,t8⟩:=A.act
  obtain⟨u1,u2,u3,u4⟩:=A.vo
  obtain⟨p1,p2⟩:=A.pu
  refine⟨⟨?_,?_⟩,⟨?_,?_⟩,⟨?_,?_⟩,⟨?_,?_⟩,⟨?_,?_⟩,⟨?_,?_⟩,⟨?_,?_⟩,⟨?_,?_⟩,⟨?_,?_⟩,⟨?_,?_⟩,⟨?_,?_⟩,⟨?_,?_⟩⟩<;>omega
 have h0:=hG.n 0 (by omega)
 have h1:=hG.n 1 (by omega)
 rw[hN2 0 (by omega)]at h0
 rw[hN2 1 (by omega)]at h1
 have key:=zkI (bad:=(vK f (C.G 6).n:Int)) (words:=((C.G 6).n:Int)) (w0:=w0) h0 h1 hN hG G D hw hf32 hCL hl (fun ρ E J=>zkN E J hG G D hn I hp) rfl
 rw[show(Js C).toArray=#[qd C,qD C,Zg C]from by rw[<-Jx hn];rfl]at key
 exact key
end Go.Proofs.YtoakpnoajmngmaaGreatDoor.Sx
