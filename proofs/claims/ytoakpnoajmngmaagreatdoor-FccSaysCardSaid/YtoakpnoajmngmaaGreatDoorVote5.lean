import Derived.Test.YtoakpnoajmngmaaGreatDoorVote4
import Derived.Test.YtoakpnoajmngmaaGreatDoorWgPl
import Derived.Outline
import Derived.Deep.CutBlock
set_option linter.unusedVariables false
set_option linter.unusedSimpArgs false
namespace Go.Proofs.YtoakpnoajmngmaaGreatDoor
open Go.RowKit
def ki (t o:Nat->Bool):Nat->Int
 |0=>0
 |k+1=>if(t k&& !o k)=true then ki t o k+1 else ki t o k
def ky (t o:Nat->Bool) (x:Nat->Int):Nat->Int
 |0=>0
 |k+1=>if(t k&& !o k)=true then ky t o x k+x k else ky t o x k
def xu (t o:Nat->Bool) (x:Nat->Int):Nat->Int
 |0=>2147483647
 |k+1=>if(t k&& !o k)=true then min (xu t o x k) (x k)else xu t o x k
def xv (t o:Nat->Bool) (x:Nat->Int):Nat->Int
 |0=> -2147483647
 |k+1=>if(t k&& !o k)=true then max (xv t o x k) (x k)else xv t o x k
theorem zei (t o:Nat->Bool) (k:Nat):0<=ki t o k/\ki t o k<=k:=by
 induction k with
 |zero=>exact⟨Int.le_refl _,Int.le_refl _⟩
 |succ k ih=>unfold ki;split<;>omega
theorem zej (t o:Nat->Bool) (x:Nat->Int) (k:Nat) (h:∀j,j<k->t j=true-> -1000000<=x j/\x j<=1000000): -1000000*(k:Int)<=ky t o x k/\ky t o x k<=1000000*(k:Int):=by
 induction k with
 |zero=>exact⟨by simp[ky],by simp[ky]⟩
 |succ k ih=>
  have:=ih (fun j hj=>h j (by omega))
  unfold ky;split
  ·rename_i hc
   have:=h k (by omega) (by simp at hc;exact hc.1)
   omega
  ·omega
theorem zek (t o:Nat->Bool) (x:Nat->Int) (k:Nat) (h:∀j,j<k->t j=true-> -1000000<=x j/\x j<=1000000): -2147483647<=xu t o x k/\xu t o x k<=2147483647/\ -2147483647<=xv t o x k/\xv t o x k<=2147483647:=by
 induction k with
 |zero=>unfold xu xv;omega
 |succ k ih=>
  have:=ih (fun j hj=>h j (by omega))
  unfold xu xv;split
  ·rename_i hc
   have:=h k (by omega) (by simp at hc;exact hc.1)
   omega
  ·omega
def zaT (t o:Nat->Bool) (x:Nat->Int) (last:Int):Int:=
 if ki t o 3=1 then ky t o x 3 else if ki t o 3=2 then ky t o x 3/2 else if ki t o 3=3 then ky t o x 3-xu t o x 3-xv t o x 3 else last
theorem zaU (t o:Nat->Bool) (x:Nat->Int) (last:Int) (h:∀j,j<3->t j=true-> -1000000<=x j/\x j<=1000000):
  zaT t o x last=xQ (t 0&& !o 0) (t 1&& !o 1) (t 2&& !o 2) (x 0) (x 1) (x 2) last:=by
 have a0:=h 0 (by omega)
 have a1:=h 1 (by omega)
 have a2:=h 2 (by omega)
 unfold zaT
 simp only[ki,ky,xu,xv]
 rcases Bool.eq_false_or_eq_true (t 0&& !o 0)with h0|h0<;>rcases Bool.eq_false_or_eq_true (t 1&& !o 1)with h1|h1<;>rcases Bool.eq_false_or_eq_true (t 2&& !o 2)with h2|h2<;>simp only[h0,h1,h2]<;>first|(simp[xQ];done)|skip
 simp only[Bool.and_eq_true]at h0 h1 h2
 simp only[xQ]
 have:=a0 h0.1
 have:=a1 h1.1
 have:=a2 h2.1
 rw[<-zbw (x 0) (x 1) (x 2) (by omega) (by omega) (by omega) (by omega) (by omega) (by omega)]
 simp
theorem zel (t o:Nat->Bool):ki t o 3=WA (t 0&& !o 0) (t 1&& !o 1) (t 2&& !o 2):=by
 simp only[ki]
 rcases Bool.eq_false_or_eq_true (t 0&& !o 0)with h0|h0<;>rcases Bool.eq_false_or_eq_true (t 1&& !o 1)with h1|h1<;>rcases Bool.eq_false_or_eq_true (t 2&& !o 2)with h2|h2<;>simp only[h0,h1,h2]<;>rfl
set_option maxHeartbeats 1000000 in
set_option maxRecDepth 100000 in
theorem zem (b:Nat->Int) (o:Nat->Bool) (last limit confirm:Int) (t:Nat->Bool) (x:Nat->Int) (w:World)
  (l1:0<=limit) (l2:limit<=1000000) (c1:1<=confirm) (c2:confirm<=10) (a1: -1000000<=last) (a2:last<=1000000) (HB:Hid (∀k,k<3->0<=b k/\b k<=10)) (HX:Hid (∀k,k<3->t k=true-> -1000000<=x k/\x k<=1000000))
  (v m:Int) (hv:Unit->zaT t o x last=v) (hm:Unit->ki t o 3=m)
  (v1: -1000000<=v) (v2:v<=1000000) (bn:Nat->Int) (on:Nat->Bool) (hbn:Hid (∀j,j<3->jI t o x v limit b 3 j=bn j)) (hon:Hid (∀j,j<3->j6 t o x v limit confirm b 3 j=on j)):
  Calls Tryz.prog 62 #[.agg #[.int .i64 (b 0),.int .i64 (b 1),.int .i64 (b 2),.bool (o 0),.bool (o 1),.bool (o 2),.int .i64 last],.agg #[.int .i64 limit,.int .i64 confirm],.agg #[.bool (t 0),.int .i64 (x 0),.bool (t 1),.int .i64 (x 1),.bool (t 2),.int .i64 (x 2)]] w fun e w'=>
   e= .returned (.tuple #[.agg #[.int .i64 (bn 0),.int .i64 (bn 1),.int .i64 (bn 2),.bool (on 0),.bool (on 1),.bool (on 2),.int .i64 v],.agg #[.int .i64 v,.int .i64 m]])/\Below w.heap.size w w':=by
 go_enter Tryz.func62,Tryz.ntmps62
 go_wp2_with fail
 refine zT (fun ω=>Below w.heap.size w ω/\w.heap.size<ω.heap.size/\(∀o,ω.frozen? ⟨w.heap.size,o,none⟩=false)/\ω.cell? ⟨w.heap.size,0,none⟩=some (.int .i64 ((b 0)))/\ω.cell? ⟨w.heap.size,1,none⟩=some (.int .i64 ((b 1)))/\ω.cell? ⟨w.heap.size,2,none⟩=some (.int .i64 ((b 2)))/\ω.cell? ⟨w.heap.size,3,none⟩=some (.bool ((o 0)))/\ω.cell? ⟨w.heap.size,4,none⟩=some (.bool ((o 1)))/\ω.cell? ⟨w.heap.size,5,none⟩=some (.bool ((o 2)))/\ω.cell? ⟨w.heap.size,6,none⟩=some (.int .i64 last)/\w.heap.size+1<ω.heap.size/\(∀o,ω.frozen? ⟨w.heap.size+1,o,none⟩=false)/\ω.cell? ⟨w.heap.size+1,0,none⟩=some (.int .i64 limit)/\ω.cell? ⟨w.heap.size+1,1,none⟩=some (.int .i64 confirm)/\w.heap.size+1+1<ω.heap.size/\(∀o,ω.frozen? ⟨w.heap.size+1+1,o,none⟩=false)/\ω.cell? ⟨w.heap.size+1+1,0,none⟩=some (.bool ((t 0)))/\ω.cell? ⟨w.heap.size+1+1,1,none⟩=some (.int .i64 ((x 0)))/\ω.cell? ⟨w.heap.size+1+1,2,none⟩=some (.bool ((t 1)))/\ω.cell? ⟨w.heap.size+1+1,3,none⟩=some (.int .i64 ((x 1)))/\ω.cell? ⟨w.heap.size+1+1,4,none⟩=some (.bool ((t 2)))/\ω.cell? ⟨w.heap.size+1+1,5,none⟩=some (.int .i64 ((x 2)))/\w.heap.size+1+1+1<ω.heap.size/\(∀o,ω.frozen? ⟨w.heap.size+1+1+1,o,none⟩=false)/\ω.cell? ⟨w.heap.size+1+1+1,0,none⟩=some (.int .i64 0)/\ω.cell? ⟨w.heap.size+1+1+1,1,none⟩=some (.int .i64 0)/\ω.cell? ⟨w.heap.size+1+1+1,2,none⟩=some (.int .i64 0)/\ω.cell? ⟨w.heap.size+1+1+1,3,none⟩=some (.bool false)/\ω.cell? ⟨w.heap.size+1+1+1,4,none⟩=some (.bool false)/\ω.cell? ⟨w.heap.size+1+1+1,5,none⟩=some (.bool false)/\ω.cell? ⟨w.heap.size+1+1+1,6,none⟩=some (.int .i64 0)/\w.heap.size+1+1+1+1<ω.heap.size/\(∀o,ω.frozen? ⟨w.heap.size+1+1+1+1,o,none⟩=false)/\ω.cell? ⟨w.heap.size+1+1+1+1,0,none⟩=some (.int .i64 0)/\ω.cell? ⟨w.heap.size+1+1+1+1,1,none⟩=some (.int .i64 0)) ⟨gW,gS,gF,gC,gC,gC,gC,gC,gC,gC,gS,gF,gC,gC,gS,gF,gC,gC,gC,gC,gC,gC,gS,gF,gC,gC,gC,gC,gC,gC,gC,gS,gF,gC,gC⟩ ?_
 rintro w2 ⟨hB2,hy2_0,hf2_0,hc2_0_0,hc2_0_1,hc2_0_2,hc2_0_3,hc2_0_4,hc2_0_5,hc2_0_6,hy2_1,hf2_1,hc2_1_0,hc2_1_1,hy2_2,hf2_2,hc2_2_0,hc2_2_1,hc2_2_2,hc2_2_3,hc2_2_4,hc2_2_5,hy2_3,hf2_3,hc2_3_0,hc2_3_1,hc2_3_2,hc2_3_3,hc2_3_4,hc2_3_5,hc2_3_6,hy2_4,hf2_4,hc2_4_0,hc2_4_1⟩
 go_loopw [8,9,10,11,12] (fun cc lo hi su i wr=>∃k:Nat,k<=3/\i= .int .i64 k/\cc= .int .i64 (ki t o k)/\lo= .int .i64 (xu t o x k)/\hi= .int .i64 (xv t o x k)/\su= .int .i64 (ky t o x k)/\Below w2.heap.size w2 wr) (fun _ _ _ _ i _=>3-(intOf i).toNat)
 case atStart=>exact⟨0,by omega,rfl,rfl,rfl,rfl,rfl,Below.refl _ _⟩
 case round=>
  obtain⟨k,hk,rfl,rfl,rfl,rfl,rfl,hbw⟩:=hrel
  have hsz:=hbw.size
  have hy0:w.heap.size<wr.heap.size:=by omega
  have hcn:=zei t o k
  have hsn:=zej t o x k (fun j hj=>HX.out j (by omega))
  have hmn:=zek t o x k (fun j hj=>HX.out j (by omega))
  obtain⟨hcn1,hcn2⟩:=hcn
  obtain⟨hsn1,hsn2⟩:=hsn
  obtain⟨hmn1,hmn2,hmn3,hmn4⟩:=hmn
  by_cases hlt:k<3
  ·have hc:wr.cell? ⟨w.heap.size,3+k,none⟩=some (.bool (o k)):=by
    rw[hbw.cell hy2_0]
    match k,hlt with
    |0,_=>exact hc2_0_3
    |1,_=>exact hc2_0_4
    |2,_=>exact hc2_0_5
   have ht0:wr.cell? ⟨w.heap.size+1+1,k*2,none⟩=some (.bool (t k)):=by
    rw[hbw.cell hy2_2]
    match k,hlt with
    |0,_=>exact hc2_2_0
    |1,_=>exact hc2_2_2
    |2,_=>exact hc2_2_4
   have hx0:wr.cell? ⟨w.heap.size+1+1,k*2+1,none⟩=some (.int .i64 (x k)):=by
    rw[hbw.cell hy2_2]
    match k,hlt with
    |0,_=>exact hc2_2_1
    |1,_=>exact hc2_2_3
    |2,_=>exact hc2_2_5
   by_cases hto:(t k&& !o k)=true
   ·have HC:Hid (ki t o (k+1)=ki t o k+1):=if_pos hto
    have HS:Hid (ky t o x (k+1)=ky t o x k+x k):=if_pos hto
    have HL:Hid (xu t o x (k+1)=min (xu t o x k) (x k)):=if_pos hto
    have HH:Hid (xv t o x (k+1)=max (xv t o x k) (x k)):=if_pos hto
    simp at hto
    obtain⟨ht,ho⟩:=hto
    have hx01:=HX.out k hlt ht
    obtain⟨hx1,hx2⟩:=hx01
    rw[ht]at ht0
    rw[ho]at hc
    clear ht ho
    obtain⟨lo,hlo⟩:∃y,y=min (xu t o x k) (x k):=⟨_,rfl⟩
    obtain⟨hi,hhi⟩:∃y,y=max (xv t o x k) (x k):=⟨_,rfl⟩
    have m1:=kD _ _ lo hlo
    have m2:=vw _ _ hi hhi
    rw[<-hlo]at HL
    rw[<-hhi]at HH
    clear hlo hhi
    go_wp2_with fail
    go_region
    all_goals
     go_wp2_with fail
     go_roundw
     case rel=>exact⟨k+1,by omega,by go_num,by rw[HC.out],by rw[HL.out],by rw[HH.out],by rw[HS.out],gW⟩
     case measure=>simp[intOf];omega
   ·have HC:Hid (ki t o (k+1)=ki t o k):=if_neg hto
    have HS:Hid (ky t o x (k+1)=ky t o x k):=if_neg hto
    have HL:Hid (xu t o x (k+1)=xu t o x k):=if_neg hto
    have HH:Hid (xv t o x (k+1)=xv t o x k):=if_neg hto
    by_cases ht:t k=true
    ·have ho:o k=true:=by simpa [ht]using hto
     rw[ht]at ht0
     rw[ho]at hc
     clear ht ho hto
     go_wp2_with fail
     go_roundw
     case rel=>exact⟨k+1,by omega,by go_num,by rw[HC.out],by rw[HL.out],by rw[HH.out],by rw[HS.out],gW⟩
     case measure=>simp[intOf];omega
    ·have ht':t k=false:=by simpa using ht
     rw[ht']at ht0
     clear ht ht' hto
     go_wp2_with fail
     go_roundw
     case rel=>exact⟨k+1,by omega,by go_num,by rw[HC.out],by rw[HL.out],by rw[HH.out],by rw[HS.out],gW⟩
     case measure=>simp[intOf];omega
  ·have hk3:k=3:=by omega
   have HV:Hid (v=if ki t o k=1 then ky t o x k else if ki t o k=2 then ky t o x k/2 else if ki t o k=3 then ky t o x k-xu t o x k-xv t o x k else last):=by
    unfold Hid;rw[hk3];exact(hv ()).symm
   have HM:ki t o k=m:=by rw[hk3];exact hm ()
   clear hv hm
   have hy3_0:w.heap.size<wr.heap.size:=by have:=hbw.size;omega
   have hf3_0:∀o,wr.frozen? ⟨w.heap.size,o,none⟩=false:=fun o=>zZ hbw (by first|omega|(simp;omega)) (hf2_0 o)
   have hc3_0_0:wr.cell? ⟨w.heap.size,0,none⟩=some (.int .i64 ((b 0))):=za hbw (by first|omega|(simp;omega)) hc2_0_0
   have hc3_0_1:wr.cell? ⟨w.heap.size,1,none⟩=some (.int .i64 ((b 1))):=za hbw (by first|omega|(simp;omega)) hc2_0_1
   have hc3_0_2:wr.cell? ⟨w.heap.size,2,none⟩=some (.int .i64 ((b 2))):=za hbw (by first|omega|(simp;omega)) hc2_0_2
   have hc3_0_3:wr.cell? ⟨w.heap.size,3,none⟩=some (.bool ((o 0))):=za hbw (by first|omega|(simp;omega)) hc2_0_3
   have hc3_0_4:wr.cell? ⟨w.heap.size,4,none⟩=some (.bool ((o 1))):=za hbw (by first|omega|(simp;omega)) hc2_0_4
   have hc3_0_5:wr.cell? ⟨w.heap.size,5,none⟩=some (.bool ((o 2))):=za hbw (by first|omega|(simp;omega)) hc2_0_5
   have hc3_0_6:wr.cell? ⟨w.heap.size,6,none⟩=some (.int .i64 last):=za hbw (by first|omega|(simp;omega)) hc2_0_6
   have hy3_1:w.heap.size+1<wr.heap.size:=by have:=hbw.size;omega
   have hf3_1:∀o,wr.frozen? ⟨w.heap.size+1,o,none⟩=false:=fun o=>zZ hbw (by first|omega|(simp;omega)) (hf2_1 o)
   have hc3_1_0:wr.cell? ⟨w.heap.size+1,0,none⟩=some (.int .i64 limit):=za hbw (by first|omega|(simp;omega)) hc2_1_0
   have hc3_1_1:wr.cell? ⟨w.heap.size+1,1,none⟩=some (.int .i64 confirm):=za hbw (by first|omega|(simp;omega)) hc2_1_1
   have hy3_2:w.heap.size+1+1<wr.heap.size:=by have:=hbw.size;omega
   have hf3_2:∀o,wr.frozen? ⟨w.heap.size+1+1,o,none⟩=false:=fun o=>zZ hbw (by first|omega|(simp;omega)) (hf2_2 o)
   have hc3_2_0:wr.cell? ⟨w.heap.size+1+1,0,none⟩=some (.bool ((t 0))):=za hbw (by first|omega|(simp;omega)) hc2_2_0
   have hc3_2_1:wr.cell? ⟨w.heap.size+1+1,1,none⟩=some (.int .i64 ((x 0))):=za hbw (by first|omega|(simp;omega)) hc2_2_1
   have hc3_2_2:wr.cell? ⟨w.heap.size+1+1,2,none⟩=some (.bool ((t 1))):=za hbw (by first|omega|(simp;omega)) hc2_2_2
   have hc3_2_3:wr.cell? ⟨w.heap.size+1+1,3,none⟩=some (.int .i64 ((x 1))):=za hbw (by first|omega|(simp;omega)) hc2_2_3
   have hc3_2_4:wr.cell? ⟨w.heap.size+1+1,4,none⟩=some (.bool ((t 2))):=za hbw (by first|omega|(simp;omega)) hc2_2_4
   have hc3_2_5:wr.cell? ⟨w.heap.size+1+1,5,none⟩=some (.int .i64 ((x 2))):=za hbw (by first|omega|(simp;omega)) hc2_2_5
   have hy3_3:w.heap.size+1+1+1<wr.heap.size:=by have:=hbw.size;omega
   have hf3_3:∀o,wr.frozen? ⟨w.heap.size+1+1+1,o,none⟩=false:=fun o=>zZ hbw (by first|omega|(simp;omega)) (hf2_3 o)
   have hc3_3_0:wr.cell? ⟨w.heap.size+1+1+1,0,none⟩=some (.int .i64 0):=za hbw (by first|omega|(simp;omega)) hc2_3_0
   have hc3_3_1:wr.cell? ⟨w.heap.size+1+1+1,1,none⟩=some (.int .i64 0):=za hbw (by first|omega|(simp;omega)) hc2_3_1
   have hc3_3_2:wr.cell? ⟨w.heap.size+1+1+1,2,none⟩=some (.int .i64 0):=za hbw (by first|omega|(simp;omega)) hc2_3_2
   have hc3_3_3:wr.cell? ⟨w.heap.size+1+1+1,3,none⟩=some (.bool false):=za hbw (by first|omega|(simp;omega)) hc2_3_3
   have hc3_3_4:wr.cell? ⟨w.heap.size+1+1+1,4,none⟩=some (.bool false):=za hbw (by first|omega|(simp;omega)) hc2_3_4
   have hc3_3_5:wr.cell? ⟨w.heap.size+1+1+1,5,none⟩=some (.bool false):=za hbw (by first|omega|(simp;omega)) hc2_3_5
   have hc3_3_6:wr.cell? ⟨w.heap.size+1+1+1,6,none⟩=some (.int .i64 0):=za hbw (by first|omega|(simp;omega)) hc2_3_6
   have hy3_4:w.heap.size+1+1+1+1<wr.heap.size:=by have:=hbw.size;omega
   have hf3_4:∀o,wr.frozen? ⟨w.heap.size+1+1+1+1,o,none⟩=false:=fun o=>zZ hbw (by first|omega|(simp;omega)) (hf2_4 o)
   have hc3_4_0:wr.cell? ⟨w.heap.size+1+1+1+1,0,none⟩=some (.int .i64 0):=za hbw (by first|omega|(simp;omega)) hc2_4_0
   have hc3_4_1:wr.cell? ⟨w.heap.size+1+1+1+1,1,none⟩=some (.int .i64 0):=za hbw (by first|omega|(simp;omega)) hc2_4_1
   clear hf2_0 hc2_0_0 hc2_0_1 hc2_0_2 hc2_0_3 hc2_0_4 hc2_0_5 hc2_0_6 hf2_1 hc2_1_0 hc2_1_1 hf2_2 hc2_2_0 hc2_2_1 hc2_2_2 hc2_2_3 hc2_2_4 hc2_2_5 hf2_3 hc2_3_0 hc2_3_1 hc2_3_2 hc2_3_3 hc2_3_4 hc2_3_5 hc2_3_6 hf2_4 hc2_4_0 hc2_4_1
   rw[HM]at HV hcn1 hcn2 ⊢
   clear HM hk3
   generalize ky t o x k=su at*
   generalize xu t o x k=lo at*
   generalize xv t o x k=hi at*
   have hBr:Below w.heap.size w wr:=hB2.trans (hbw.mono (by omega))
   (try clear hc2_0_0);(try clear hc2_0_1);(try clear hc2_0_2);(try clear hc2_0_3);(try clear hc2_0_4);(try clear hc2_0_5);(try clear hc2_0_6);(try clear hf2_0);(try clear hy2_0);(try clear hq2_0);(try clear hc2_1_0);(try clear hc2_1_1);(try clear hf2_1);(try clear hy2_1);(try clear hq2_1);(try clear hc2_2_0);(try clear hc2_2_1);(try clear hc2_2_2);(try clear hc2_2_3);(try clear hc2_2_4);(try clear hc2_2_5);(try clear hf2_2);(try clear hy2_2);(try clear hq2_2);(try clear hc2_3_0);(try clear hc2_3_1);(try clear hc2_3_2);(try clear hc2_3_3);(try clear hc2_3_4);(try clear hc2_3_5);(try clear hc2_3_6);(try clear hf2_3);(try clear hy2_3);(try clear hq2_3);(try clear hc2_4_0);(try clear hc2_4_1);(try clear hf2_4);(try clear hy2_4);(try clear hq2_4);(try clear hB2);(try clear hz2)
   clear hbw hsz
   go_upto_block 2 with(fail)
   have hcases:m=0\/m=1\/m=2\/m=3:=by omega
   go_cut [] (fun ω=>Below w.heap.size w ω/\w.heap.size<ω.heap.size/\(∀o,ω.frozen? ⟨w.heap.size,o,none⟩=false)/\ω.cell? ⟨w.heap.size,0,none⟩=some (.int .i64 ((b 0)))/\ω.cell? ⟨w.heap.size,1,none⟩=some (.int .i64 ((b 1)))/\ω.cell? ⟨w.heap.size,2,none⟩=some (.int .i64 ((b 2)))/\ω.cell? ⟨w.heap.size,3,none⟩=some (.bool ((o 0)))/\ω.cell? ⟨w.heap.size,4,none⟩=some (.bool ((o 1)))/\ω.cell? ⟨w.heap.size,5,none⟩=some (.bool ((o 2)))/\ω.cell? ⟨w.heap.size,6,none⟩=some (.int .i64 last)/\w.heap.size+1<ω.heap.size/\(∀o,ω.frozen? ⟨w.heap.size+1,o,none⟩=false)/\ω.cell? ⟨w.heap.size+1,0,none⟩=some (.int .i64 limit)/\ω.cell? ⟨w.heap.size+1,1,none⟩=some (.int .i64 confirm)/\w.heap.size+1+1<ω.heap.size/\(∀o,ω.frozen? ⟨w.heap.size+1+1,o,none⟩=false)/\ω.cell? ⟨w.heap.size+1+1,0,none⟩=some (.bool ((t 0)))/\ω.cell? ⟨w.heap.size+1+1,1,none⟩=some (.int .i64 ((x 0)))/\ω.cell? ⟨w.heap.size+1+1,2,none⟩=some (.bool ((t 1)))/\ω.cell? ⟨w.heap.size+1+1,3,none⟩=some (.int .i64 ((x 1)))/\ω.cell? ⟨w.heap.size+1+1,4,none⟩=some (.bool ((t 2)))/\ω.cell? ⟨w.heap.size+1+1,5,none⟩=some (.int .i64 ((x 2)))/\w.heap.size+1+1+1<ω.heap.size/\(∀o,ω.frozen? ⟨w.heap.size+1+1+1,o,none⟩=false)/\ω.cell? ⟨w.heap.size+1+1+1,0,none⟩=some (.int .i64 0)/\ω.cell? ⟨w.heap.size+1+1+1,1,none⟩=some (.int .i64 0)/\ω.cell? ⟨w.heap.size+1+1+1,2,none⟩=some (.int .i64 0)/\ω.cell? ⟨w.heap.size+1+1+1,3,none⟩=some (.bool false)/\ω.cell? ⟨w.heap.size+1+1+1,4,none⟩=some (.bool false)/\ω.cell? ⟨w.heap.size+1+1+1,5,none⟩=some (.bool false)/\ω.cell? ⟨w.heap.size+1+1+1,6,none⟩=some (.int .i64 0)/\w.heap.size+1+1+1+1<ω.heap.size/\(∀o,ω.frozen? ⟨w.heap.size+1+1+1+1,o,none⟩=false)/\ω.cell? ⟨w.heap.size+1+1+1+1,0,none⟩=some (.int .i64 0)/\ω.cell? ⟨w.heap.size+1+1+1+1,1,none⟩=some (.int .i64 0)/\wr.heap.size<ω.heap.size/\(∀o,ω.frozen? ⟨wr.heap.size,o,none⟩=false)/\ω.cell? ⟨wr.heap.size,0,none⟩=some (.int .i64 v)/\ω.cell? ⟨wr.heap.size,1,none⟩=some (.int .i64 m))
   case first=>
    (rcases hcases with rfl|rfl|rfl|rfl<;>(have HV2:=HV.out;simp at HV2;clear HV;subst HV2;go_wp2_with (go_at_call 98;((with_reducible refine(zbb _ _ _ (by omega) (by omega) (by omega) (by omega)).mono ?_);rintro e w' ⟨rfl,rfl⟩))))
    all_goals(go_wp2_with fail;go_meet;exact⟨gW,gS,gF,gC,gC,gC,gC,gC,gC,gC,gS,gF,gC,gC,gS,gF,gC,gC,gC,gC,gC,gC,gS,gF,gC,gC,gC,gC,gC,gC,gC,gS,gF,gC,gC,gS,gF,gC,gC⟩)
   obtain⟨hB5,hy5_0,hf5_0,hc5_0_0,hc5_0_1,hc5_0_2,hc5_0_3,hc5_0_4,hc5_0_5,hc5_0_6,hy5_1,hf5_1,hc5_1_0,hc5_1_1,hy5_2,hf5_2,hc5_2_0,hc5_2_1,hc5_2_2,hc5_2_3,hc5_2_4,hc5_2_5,hy5_3,hf5_3,hc5_3_0,hc5_3_1,hc5_3_2,hc5_3_3,hc5_3_4,hc5_3_5,hc5_3_6,hy5_4,hf5_4,hc5_4_0,hc5_4_1,hy5_r_0,hf5_r_0,hc5_r_0_0,hc5_r_0_1⟩:=hcut
   obtain⟨w5,rfl⟩:∃x:World,x=wc:=⟨_,rfl⟩
   have hbk:BankAt w5 w5 w.heap.size (jI t o x v limit b 0) (j6 t o x v limit confirm b 0) last:=by
    refine⟨ZL _ _,fun j hj=>?_,fun j hj=>?_,hc5_0_6,hf5_0,hy5_0⟩
    ·rw[WF]
     match j,hj with
     |0,_=>exact hc5_0_0
     |1,_=>exact hc5_0_1
     |2,_=>exact hc5_0_2
    ·rw[WG]
     match j,hj with
     |0,_=>exact hc5_0_3
     |1,_=>exact hc5_0_4
     |2,_=>exact hc5_0_5
   have hy30:=hy3_0
   have hy34:=hy3_4
   (try clear hc3_0_0);(try clear hc3_0_1);(try clear hc3_0_2);(try clear hc3_0_3);(try clear hc3_0_4);(try clear hc3_0_5);(try clear hc3_0_6);(try clear hf3_0);(try clear hy3_0);(try clear hq3_0);(try clear hc3_1_0);(try clear hc3_1_1);(try clear hf3_1);(try clear hy3_1);(try clear hq3_1);(try clear hc3_2_0);(try clear hc3_2_1);(try clear hc3_2_2);(try clear hc3_2_3);(try clear hc3_2_4);(try clear hc3_2_5);(try clear hf3_2);(try clear hy3_2);(try clear hq3_2);(try clear hc3_3_0);(try clear hc3_3_1);(try clear hc3_3_2);(try clear hc3_3_3);(try clear hc3_3_4);(try clear hc3_3_5);(try clear hc3_3_6);(try clear hf3_3);(try clear hy3_3);(try clear hq3_3);(try clear hc3_4_0);(try clear hc3_4_1);(try clear hf3_4);(try clear hy3_4);(try clear hq3_4);(try clear hB3);(try clear hz3)
   clear hc5_0_0 hc5_0_1 hc5_0_2 hc5_0_3 hc5_0_4 hc5_0_5 hc5_0_6 hf5_0 hBr
   obtain⟨wo,rfl⟩:∃wo:World,wo=wr:=⟨_,rfl⟩
   go_wp2_with fail
   go_loopw [14] (fun i wq=>∃k:Nat,k<=3/\i= .int .i64 k/\BankAt w5 wq w.heap.size (jI t o x v limit b k) (j6 t o x v limit confirm b k) last) (fun i _=>3-(intOf i).toNat)
   case atStart=>exact⟨0,by omega,rfl,hbk⟩
   case round=>
    clear hbk
    obtain⟨k,hk,rfl,hbk⟩:=hrel
    have hG:=hbk.grown
    have hfr:=hbk.froz
    have hsz:=hG.size
    have hy0:w.heap.size<wr.heap.size:=by omega
    have r0:=zp hG hc5_1_0 (by omega)
    have r1:=zp hG hc5_1_1 (by omega)
    have rv:=zp hG hc5_r_0_0 (by omega)
    by_cases hlt:k<3
    ·have hcb:=hbk.bad k hlt
     rw[ZR]at hcb
     have hco:=hbk.out k hlt
     rw[v7]at hco
     have hb01:=HB.out k hlt
     obtain⟨hb0,hb1⟩:=hb01
     have ht0:wr.cell? ⟨w.heap.size+1+1,k*2,none⟩=some (.bool (t k)):=by
      match k,hlt with
      |0,_=>exact zp hG hc5_2_0 (by omega)
      |1,_=>exact zp hG hc5_2_2 (by omega)
      |2,_=>exact zp hG hc5_2_4 (by omega)
     have hx0:wr.cell? ⟨w.heap.size+1+1,k*2+1,none⟩=some (.int .i64 (x k)):=by
      match k,hlt with
      |0,_=>exact zp hG hc5_2_1 (by omega)
      |1,_=>exact zp hG hc5_2_3 (by omega)
      |2,_=>exact zp hG hc5_2_5 (by omega)
     by_cases ho:o k=true
     ·have HN:=Lib.hid (hbk.same ho)
      rw[ho]at hco
      clear ho
      go_wp2_with fail
      go_roundw
      case rel=>exact⟨k+1,by omega,by go_num,HN.out⟩
      case measure=>simp[intOf];omega
     ·have ho':o k=false:=by simpa using ho
      rw[ho']at hco
      have HO:=Lib.hid ho'
      clear ho ho'
      obtain⟨p,hp⟩:∃p,p=min (b k+1) 10:=⟨_,rfl⟩
      have mp:=kD (b k+1) 10 p hp
      by_cases hn:t k=true/\x k-v<=limit/\v-x k<=limit
      ·obtain⟨ht,n1,n2⟩:=hn
       have HN:=Lib.hid (hbk.near hlt HO.out (by rw[ht];exact GL n1 n2))
       rw[ht]at ht0
       clear ht hp mp
       go_wp2_with fail
       have e1:IntKind.i64.wrap (v-limit)=v-limit:=IntWalk.i64_in _ (by omega)
       have e2:IntKind.i64.wrap (v+limit)=v+limit:=IntWalk.i64_in _ (by omega)
       go_quiet ((go_at_call 20;exact Calls.quiet_of_same ((qc _ _ _ _ (by omega) (by omega)).mono fun _ _ hh=>⟨hh.1,hh.2.symm⟩)))
       clear e1 e2
       go_wp2_with fail
       go_roundw
       case rel=>exact⟨k+1,by omega,by go_num,HN.out.drewN _⟩
       case measure=>simp[intOf];omega
      ·have hq1:1<=p:=by omega
       have hq2:p<=10:=by omega
       have hfa:wH (t k) (x k) v limit=false:=Ku (by
        by_cases ht:t k=true
        ·right
         by_cases n1:x k-v<=limit
         ·by_cases n2:v-x k<=limit
          ·exact absurd ⟨ht,n1,n2⟩ hn
          ·omega
         ·omega
        ·left;simpa using ht)
       have HN:=Lib.hid (hbk.far hlt HO.out hfa p hp)
       clear hfa hp
       by_cases ht:t k=true
       ·have hbf:Hid (¬(v-limit<=x k/\x k<=v+limit)):=fun h=>hn ⟨ht,by omega,by omega⟩
        rw[ht]at ht0
        clear ht hn
        go_wp2_with fail
        have e1:IntKind.i64.wrap (v-limit)=v-limit:=IntWalk.i64_in _ (by omega)
        have e2:IntKind.i64.wrap (v+limit)=v+limit:=IntWalk.i64_in _ (by omega)
        go_quiet ((go_at_call 20;exact Calls.quiet_of_same ((qC _ _ _ _ hbf.out).mono fun _ _ hh=>⟨hh.1,hh.2.symm⟩)))
        clear e1 e2
        go_wp2_with fail
        go_region
        all_goals
         go_wp2_with fail
         go_roundw
         case rel=>exact⟨k+1,by omega,by go_num,(HN.out.drewN _).drew⟩
         case measure=>simp[intOf];omega
       ·have ht':t k=false:=by simpa using ht
        rw[ht']at ht0
        clear ht ht' hn
        go_wp2_with fail
        go_quiet (fail)
        go_wp2_with fail
        go_region
        all_goals
         go_wp2_with fail
         go_roundw
         case rel=>exact⟨k+1,by omega,by go_num,(HN.out.drewN _).drew⟩
         case measure=>simp[intOf];omega
    ·have hk3:k=3:=by omega
     have hbe:BankAt w5 wr w.heap.size bn on last:=by
      rw[hk3]at hbk
      exact hbk.congr hbn.out hon.out
     clear hbk hk3
     have d0:=hbe.bad 0 (by omega)
     have d1:=hbe.bad 1 (by omega)
     have d2:=hbe.bad 2 (by omega)
     have d3:=hbe.out 0 (by omega)
     have d4:=hbe.out 1 (by omega)
     have d5:=hbe.out 2 (by omega)
     have d6:=hbe.last
     have hbb:=xz hbe.grown (B:=w.heap.size) (Nat.le_refl _) (by omega)
     have rv1:=zp hG hc5_r_0_1 (by omega)
     have e30:=zp hG hc5_3_0 (by omega)
     have e31:=zp hG hc5_3_1 (by omega)
     have e32:=zp hG hc5_3_2 (by omega)
     have e33:=zp hG hc5_3_3 (by omega)
     have e34:=zp hG hc5_3_4 (by omega)
     have e35:=zp hG hc5_3_5 (by omega)
     have e36:=zp hG hc5_3_6 (by omega)
     have e40:=zp hG hc5_4_0 (by omega)
     have e41:=zp hG hc5_4_1 (by omega)
     have f3:∀o,wr.frozen? ⟨w.heap.size+1+1+1,o,none⟩=false:=fun o=>(y0 hG (by omega) (by omega) o).trans (hf5_3 o)
     have f4:∀o,wr.frozen? ⟨w.heap.size+1+1+1+1,o,none⟩=false:=fun o=>(y0 hG (by omega) (by omega) o).trans (hf5_4 o)
     have hB55:=hB5
     (try clear hc5_0_0);(try clear hc5_0_1);(try clear hc5_0_2);(try clear hc5_0_3);(try clear hc5_0_4);(try clear hc5_0_5);(try clear hc5_0_6);(try clear hf5_0);(try clear hy5_0);(try clear hq5_0);(try clear hc5_1_0);(try clear hc5_1_1);(try clear hf5_1);(try clear hy5_1);(try clear hq5_1);(try clear hc5_2_0);(try clear hc5_2_1);(try clear hc5_2_2);(try clear hc5_2_3);(try clear hc5_2_4);(try clear hc5_2_5);(try clear hf5_2);(try clear hy5_2);(try clear hq5_2);(try clear hc5_3_0);(try clear hc5_3_1);(try clear hc5_3_2);(try clear hc5_3_3);(try clear hc5_3_4);(try clear hc5_3_5);(try clear hc5_3_6);(try clear hf5_3);(try clear hy5_3);(try clear hq5_3);(try clear hc5_4_0);(try clear hc5_4_1);(try clear hf5_4);(try clear hy5_4);(try clear hq5_4);(try clear hc5_r_0_0);(try clear hc5_r_0_1);(try clear hf5_r_0);(try clear hy5_r_0);(try clear hq5_r_0);(try clear hB5);(try clear hz5)
     clear hG
     have g1:¬w.heap.size+1+1+1=wo.heap.size:=by omega
     have g2:¬wo.heap.size=w.heap.size+1+1+1:=by omega
     have g3:¬w.heap.size+1+1+1+1=wo.heap.size:=by omega
     have g4:¬wo.heap.size=w.heap.size+1+1+1+1:=by omega
     have g5:¬w.heap.size=wo.heap.size:=by omega
     have g6:¬wo.heap.size=w.heap.size:=by omega
     go_wp2_with fail
     go_region
     all_goals
      go_wp2_with fail
      refine bodyPost_ret (v:= .tuple #[.agg #[.int .i64 (bn 0),.int .i64 (bn 1),.int .i64 (bn 2),.bool (on 0),.bool (on 1),.bool (on 2),.int .i64 v],.agg #[.int .i64 v,.int .i64 m]]) ?_ rfl ⟨rfl,gW⟩
      simp[results,Tryz.results62,go_sem,e30,e31,e32,e33,e34,e35,e36,e40,e41,f3,f4]
      first|done|rfl
end Go.Proofs.YtoakpnoajmngmaaGreatDoor
