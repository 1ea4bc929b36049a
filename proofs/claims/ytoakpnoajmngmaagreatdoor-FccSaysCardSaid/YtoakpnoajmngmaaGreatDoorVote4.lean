import Derived.Test.YtoakpnoajmngmaaGreatDoorVote3
import Derived.OwnWalk
set_option linter.unusedVariables false
set_option linter.unusedSimpArgs false
namespace Go.Proofs.YtoakpnoajmngmaaGreatDoor
open Go.RowKit
theorem YR {e0:Int} {t:Nat->Bool} {x:Nat->Int} (h:qK e0 t x 3=0):e0=0/\∀k,k<3->t k=true-> -1000000<=x k/\x k<=1000000:=by
 have key:∀n,qK e0 t x n=0->e0=0/\∀k,k<n->t k=true-> -1000000<=x k/\x k<=1000000:=by
  intro n
  induction n with
  |zero=>exact fun h=>⟨h,fun k hk=>absurd hk (Nat.not_lt_zero k)⟩
  |succ n ih=>
   intro h
   have h1:por (qK e0 t x n) (wI (t n) (x n))=0:=h
   by_cases h2:qK e0 t x n=0
   ·rw[h2,vV]at h1
    obtain⟨i1,i2⟩:=ih h2
    refine⟨i1,fun k hk ht=>?_⟩
    rcases Nat.lt_succ_iff_lt_or_eq.1 hk with hk|rfl
    ·exact i2 k hk ht
    ·rw[ht]at h1
     unfold wI at h1
     split at h1
     ·omega
     ·rename_i hn
      refine⟨?_,?_⟩<;>(by_cases hc: -1000000<=x k/\x k<=1000000<;>first|omega|exact absurd ⟨rfl,hc⟩ hn)
   ·rw[mL h2]at h1;exact absurd h1 h2
 exact key 3 h
theorem Kx {limit confirm:Int} (h:qr limit confirm=0):0<=limit/\limit<=1000000/\1<=confirm/\confirm<=10:=by
 unfold qr at h;split at h
 ·assumption
 ·omega
theorem mD {b:Nat->Int} {last:Int} (h:jy (b 0) (b 1) (b 2) last=0):(∀k,k<3->0<=b k/\b k<=10)/\ -1000000<=last/\last<=1000000:=by
 unfold jy at h;split at h
 ·rename_i hc
  refine⟨fun k hk=>?_,hc.2.2.2.2.2.2.1,hc.2.2.2.2.2.2.2⟩
  match k,hk with
  |0,_=>exact⟨hc.1,hc.2.1⟩
  |1,_=>exact⟨hc.2.2.1,hc.2.2.2.1⟩
  |2,_=>exact⟨hc.2.2.2.2.1,hc.2.2.2.2.2.1⟩
 ·omega
theorem zaS {a b:Int} (h:por a b=0):a=0/\b=0:=by
 by_cases ha:a=0
 ·rw[ha,vV]at h;exact⟨ha,h⟩
 ·rw[mL ha]at h;exact absurd h ha
set_option maxHeartbeats 1000000 in
set_option maxRecDepth 100000 in
theorem VU (b:Nat->Int) (o:Nat->Bool) (last limit confirm:Int) (t:Nat->Bool) (x:Nat->Int) (w:World) (HA:Hid (qK (por (qr limit confirm) (jy (b 0) (b 1) (b 2) last)) t x 3=0))
  (v m:Int) (hv:Unit->xQ (t 0&& !o 0) (t 1&& !o 1) (t 2&& !o 2) (x 0) (x 1) (x 2) last=v) (hm:Unit->WA (t 0&& !o 0) (t 1&& !o 1) (t 2&& !o 2)=m)
  (v1: -1000000<=v) (v2:v<=1000000) (bn:Nat->Int) (on:Nat->Bool) (hbn:Hid (∀j,j<3->jI t o x v limit b 3 j=bn j)) (hon:Hid (∀j,j<3->j6 t o x v limit confirm b 3 j=on j)):
  Calls Tryz.prog 74 #[.agg #[.int .i64 (b 0),.int .i64 (b 1),.int .i64 (b 2),.bool (o 0),.bool (o 1),.bool (o 2),.int .i64 last],.agg #[.int .i64 limit,.int .i64 confirm],.agg #[.bool (t 0),.int .i64 (x 0),.bool (t 1),.int .i64 (x 1),.bool (t 2),.int .i64 (x 2)]] w fun e w'=>
   e= .returned (.tuple #[.agg #[.int .i64 (bn 0),.int .i64 (bn 1),.int .i64 (bn 2),.bool (on 0),.bool (on 1),.bool (on 2),.int .i64 v],.agg #[.int .i64 v,.int .i64 m],qp 0])/\Below w.heap.size w w':=by
 obtain⟨hp0,hp1⟩:=YR HA.out
 obtain⟨hp2,hp3⟩:=zaS hp0
 have HX:=Lib.hid hp1
 have hr:=Kx hp2
 have hb:=mD hp3
 obtain⟨l1,l2,c1,c2⟩:=hr
 obtain⟨hb0,a1,a2⟩:=hb
 have HB:=Lib.hid hb0
 clear hp0 hp1 hp2 hp3 hb0
 obtain⟨i0,ii,iz0,iz1,iz2⟩:=info_parts zit
 go_enter Tryz.func74,Tryz.ntmps74
 go_wp2_with (first|(go_at_call 109;((with_reducible refine(zaR b o last limit confirm t x _ 0 (fun _=>HA.out)).mono ?_);rintro e w1 ⟨rfl,hb1⟩;have hz1:=hb1.size;(repeat(first|simp only[World.size_alloc]at hz1|simp only[World.size_drew]at hz1|simp only[World.size_setCell]at hz1));have hB1:Below w.heap.size w w1:=gW);(have hq1_0:=fun o:Nat=>hb1.cell (p:=⟨w.heap.size,o,none⟩) gO);(have hf1_0:=fun o:Nat=>hb1.frozen (p:=⟨w.heap.size,o,none⟩) gO);(have hy1_0:w.heap.size<w1.heap.size:=by omega);(have hq1_1:=fun o:Nat=>hb1.cell (p:=⟨w.heap.size+1,o,none⟩) gO);(have hf1_1:=fun o:Nat=>hb1.frozen (p:=⟨w.heap.size+1,o,none⟩) gO);(have hy1_1:w.heap.size+1<w1.heap.size:=by omega);(have hq1_2:=fun o:Nat=>hb1.cell (p:=⟨w.heap.size+1+1,o,none⟩) gO);(have hf1_2:=fun o:Nat=>hb1.frozen (p:=⟨w.heap.size+1+1,o,none⟩) gO);(have hy1_2:w.heap.size+1+1<w1.heap.size:=by omega);(have hq1_3:=fun o:Nat=>hb1.cell (p:=⟨w.heap.size+1+1+1,o,none⟩) gO);(have hf1_3:=fun o:Nat=>hb1.frozen (p:=⟨w.heap.size+1+1+1,o,none⟩) gO);(have hy1_3:w.heap.size+1+1+1<w1.heap.size:=by omega);(have hq1_4:=fun o:Nat=>hb1.cell (p:=⟨w.heap.size+1+1+1+1,o,none⟩) gO);(have hf1_4:=fun o:Nat=>hb1.frozen (p:=⟨w.heap.size+1+1+1+1,o,none⟩) gO);(have hy1_4:w.heap.size+1+1+1+1<w1.heap.size:=by omega);clear hb1))
 refine zT (fun ω=>Below w.heap.size w ω/\w.heap.size<ω.heap.size/\(∀o,ω.frozen? ⟨w.heap.size,o,none⟩=false)/\ω.cell? ⟨w.heap.size,0,none⟩=some (.int .i64 ((b 0)))/\ω.cell? ⟨w.heap.size,1,none⟩=some (.int .i64 ((b 1)))/\ω.cell? ⟨w.heap.size,2,none⟩=some (.int .i64 ((b 2)))/\ω.cell? ⟨w.heap.size,3,none⟩=some (.bool ((o 0)))/\ω.cell? ⟨w.heap.size,4,none⟩=some (.bool ((o 1)))/\ω.cell? ⟨w.heap.size,5,none⟩=some (.bool ((o 2)))/\ω.cell? ⟨w.heap.size,6,none⟩=some (.int .i64 last)/\w.heap.size+1<ω.heap.size/\(∀o,ω.frozen? ⟨w.heap.size+1,o,none⟩=false)/\ω.cell? ⟨w.heap.size+1,0,none⟩=some (.int .i64 limit)/\ω.cell? ⟨w.heap.size+1,1,none⟩=some (.int .i64 confirm)/\w.heap.size+1+1<ω.heap.size/\(∀o,ω.frozen? ⟨w.heap.size+1+1,o,none⟩=false)/\ω.cell? ⟨w.heap.size+1+1,0,none⟩=some (.bool ((t 0)))/\ω.cell? ⟨w.heap.size+1+1,1,none⟩=some (.int .i64 ((x 0)))/\ω.cell? ⟨w.heap.size+1+1,2,none⟩=some (.bool ((t 1)))/\ω.cell? ⟨w.heap.size+1+1,3,none⟩=some (.int .i64 ((x 1)))/\ω.cell? ⟨w.heap.size+1+1,4,none⟩=some (.bool ((t 2)))/\ω.cell? ⟨w.heap.size+1+1,5,none⟩=some (.int .i64 ((x 2)))/\w.heap.size+1+1+1<ω.heap.size/\(∀o,ω.frozen? ⟨w.heap.size+1+1+1,o,none⟩=false)/\ω.cell? ⟨w.heap.size+1+1+1,0,none⟩=some (.int .i64 0)/\ω.cell? ⟨w.heap.size+1+1+1,1,none⟩=some (.int .i64 0)/\ω.cell? ⟨w.heap.size+1+1+1,2,none⟩=some (.int .i64 0)/\ω.cell? ⟨w.heap.size+1+1+1,3,none⟩=some (.bool false)/\ω.cell? ⟨w.heap.size+1+1+1,4,none⟩=some (.bool false)/\ω.cell? ⟨w.heap.size+1+1+1,5,none⟩=some (.bool false)/\ω.cell? ⟨w.heap.size+1+1+1,6,none⟩=some (.int .i64 0)/\w.heap.size+1+1+1+1<ω.heap.size/\(∀o,ω.frozen? ⟨w.heap.size+1+1+1+1,o,none⟩=false)/\ω.cell? ⟨w.heap.size+1+1+1+1,0,none⟩=some (.int .i64 0)/\ω.cell? ⟨w.heap.size+1+1+1+1,1,none⟩=some (.int .i64 0)) ⟨gW,gS,gF,gC,gC,gC,gC,gC,gC,gC,gS,gF,gC,gC,gS,gF,gC,gC,gC,gC,gC,gC,gS,gF,gC,gC,gC,gC,gC,gC,gC,gS,gF,gC,gC⟩ ?_
 rintro w2 ⟨hB2,hy2_0,hf2_0,hc2_0_0,hc2_0_1,hc2_0_2,hc2_0_3,hc2_0_4,hc2_0_5,hc2_0_6,hy2_1,hf2_1,hc2_1_0,hc2_1_1,hy2_2,hf2_2,hc2_2_0,hc2_2_1,hc2_2_2,hc2_2_3,hc2_2_4,hc2_2_5,hy2_3,hf2_3,hc2_3_0,hc2_3_1,hc2_3_2,hc2_3_3,hc2_3_4,hc2_3_5,hc2_3_6,hy2_4,hf2_4,hc2_4_0,hc2_4_1⟩
 clear hq1_0 hq1_1 hq1_2 hq1_3 hq1_4 hf1_0 hf1_1 hf1_2 hf1_3 hf1_4 hB1 hz1 hy1_0 hy1_1 hy1_2 hy1_3 hy1_4
 go_loopw [10,26] (fun l i wr=>∃k:Nat,k<=3/\i= .int .i64 k/\wr.ownsRow w2.heap.size 3 1 l (gB t o x k).length ((gB t o x k).map (Value.int .i64))/\Below w2.heap.size w2 wr) (fun _ i _=>3-(intOf i).toNat)
 case atStart=>exact⟨0,by omega,rfl,World.ownsRow_nil _ _ _ _,Below.refl _ _⟩
 case round=>
  obtain⟨k,hk,rfl,hown,hbw⟩:=hrel
  have hsz:=hbw.size
  have hy0:w.heap.size<wr.heap.size:=by omega
  have hgl:=WE t o x k
  by_cases hlt:k<3
  ·have ix:=Q4 t x k hlt
   have hc:wr.cell? ⟨w.heap.size,3+k,none⟩=some (.bool (o k)):=by
    rw[hbw.cell hy2_0]
    match k,hlt with
    |0,_=>exact hc2_0_3
    |1,_=>exact hc2_0_4
    |2,_=>exact hc2_0_5
   by_cases ht:t k=true
   ·by_cases ho:o k=true
    ·have hn:=Lib.hid (WD (t:=t) (x:=x) (.inr ho))
     rw[ht]at ix
     rw[ho]at hc
     clear ht ho
     go_wp2_with fail
     go_roundw
     case rel=>exact⟨k+1,by omega,by go_num,by rw[hn.out];exact hown.alloc _,gW⟩
     case measure=>simp[intOf];omega
    ·have ho':o k=false:=by simpa using ho
     have hn:=Lib.hid (zbx (x:=x) ht ho')
     rw[ht]at ix
     rw[ho']at hc
     clear ht ho ho'
     go_wp2_with (first|(at_builtin;refine wpList_append_own _ rfl _ _ 22 rfl w2.heap.size 3 i0 (.int .i64 0) 1 8 Tryz.underlying22 ii iz0 iz1 iz2 rfl (by decide) _ _ _ rfl ((hown.alloc _).alloc _) ⟨wr.heap.size+1,0,none⟩ 1 1 [.int .i64 (x k)] rfl rfl ?c1 ?c2 ?c3 ?c4 ?c5 ?_))
     case c1=>exact ziu (by simp)
     case c2=>exact zeA _
     case c3=>unfold maxLen;omega
     case c4=>omega
     case c5=>simp;omega
     intro l' w3 hown3 hgrow3 _
     have hb3:Below w2.heap.size w2 w3:=Below.app (gW) hgrow3 ((hown.alloc _).alloc _) (Nat.le_refl _) (by simp;omega)
     have hsz3:=hb3.size
     have hown4:w3.ownsRow w2.heap.size 3 1 l' (gB t o x (k+1)).length ((gB t o x (k+1)).map (Value.int .i64)):=by rw[hn.out];simpa using hown3
     clear hown3 hgrow3 hown
     go_wp2_with fail
     go_roundw
     case rel=>exact⟨k+1,by omega,by go_num,hown4,gW⟩
     case measure=>simp[intOf];omega
   ·have ht':t k=false:=by simpa using ht
    have hn:=Lib.hid (WD (o:=o) (x:=x) (.inl ht'))
    rw[ht']at ix
    clear ht ht'
    go_wp2_with fail
    go_roundw
    case rel=>exact⟨k+1,by omega,by go_num,by rw[hn.out];exact hown.alloc _,gW⟩
    case measure=>simp[intOf];omega
  ·have hk3:k=3:=by omega
   rw[hk3]at hown
   clear hk3 hgl
   obtain⟨A,c,rfl,hnc,hcm,-,-,hrow⟩:=KM hown
   have hmid:=Vc t o x last
   have hmany:=zby t o x
   have hall:=zfV t o x 1000000 3 HX.out
   have hfin:Hid (∀k,k<(gB t o x 3).length-> -1000000<=(gB t o x 3)[k]?.getD 0/\(gB t o x 3)[k]?.getD 0<=1000000):=fun k hk=>by
    rw[List.getElem?_eq_getElem hk];exact hall _ (List.getElem_mem hk)
   have hgl:=WE t o x 3
   rw[hv ()]at hmid
   rw[hm ()]at hmany
   have HR:=Lib.hid hrow
   clear hrow hall hown hm hv
   generalize (gB t o x 3)=L at*
   have hmid':Unit->K1 (fun k=>L[k]?.getD 0) L.length last=v:=fun _=>hmid
   clear hmid
   generalize hLn:L.length=n at*
   clear hLn
   obtain rfl:m=(n:Int):=hmany.symm
   clear hmany
   unfold maxLen at hcm
   have hy3_0:w.heap.size<wr.heap.size:=by have:=hbw.size;omega
   have hf3_0:∀o,wr.frozen? ⟨w.heap.size,o,none⟩=false:=fun o=>zZ hbw (by first|omega|(simp;omega)) (hf2_0 o)
   have hc3_0_0:wr.cell? ⟨w.heap.size,0,none⟩=some (.int .i64 ((b 0))):=za hbw (by first|omega|(simp;omega)) hc2_0_0
   have hc3_0_1:wr.cell? ⟨w.heap.size,1,none⟩=some (.int .i64 ((b 1))):=za hbw (by first|omega|(simp;omega)) hc2_0_1
   have hc3_0_2:wr.cell? ⟨w.heap.size,2,none⟩=some (.int .i64 ((b 2))):=za hbw (by first|omega|(simp;omega)) hc2_0_2
   have hc3_0_3:wr.cell? ⟨w.heap.size,3,none⟩=some (.bool ((o 0))):=za hbw (by first|omega|(simp;omega)) hc2_0_3
   have hc3_0_4:wr.cell? ⟨w.heap.size,4,none⟩=some (.bool ((o 1))):=za hbw (by first|omega|(simp;omega)) hc2_0_4
   have hc3_0_5:wr.cell? ⟨w.heap.size,5,none⟩=some (.bool ((o 2))):=za hbw (by first|omega|(simp;omega)) hc2_0_5
   have hc3_0_6:wr.cell? ⟨w.heap.size,6,none⟩=some (.int .i64 last):=za hbw (by first|omega|(simp;omega)) hc2_0_6
   have hy3_1:w.heap.size+1<wr.heap.size:=by have:=hbw.size;omega
   have hf3_1:∀o,wr.frozen? ⟨w.heap.size+1,o,none⟩=false:=fun o=>zZ hbw (by first|omega|(simp;omega)) (hf2_1 o)
   have hc3_1_0:wr.cell? ⟨w.heap.size+1,0,none⟩=some (.int .i64 limit):=za hbw (by first|omega|(simp;omega)) hc2_1_0
   have hc3_1_1:wr.cell? ⟨w.heap.size+1,1,none⟩=some (.int .i64 confirm):=za hbw (by first|omega|(simp;omega)) hc2_1_1
   have hy3_2:w.heap.size+1+1<wr.heap.size:=by have:=hbw.size;omega
   have hf3_2:∀o,wr.frozen? ⟨w.heap.size+1+1,o,none⟩=false:=fun o=>zZ hbw (by first|omega|(simp;omega)) (hf2_2 o)
   have hc3_2_0:wr.cell? ⟨w.heap.size+1+1,0,none⟩=some (.bool ((t 0))):=za hbw (by first|omega|(simp;omega)) hc2_2_0
   have hc3_2_1:wr.cell? ⟨w.heap.size+1+1,1,none⟩=some (.int .i64 ((x 0))):=za hbw (by first|omega|(simp;omega)) hc2_2_1
   have hc3_2_2:wr.cell? ⟨w.heap.size+1+1,2,none⟩=some (.bool ((t 1))):=za hbw (by first|omega|(simp;omega)) hc2_2_2
   have hc3_2_3:wr.cell? ⟨w.heap.size+1+1,3,none⟩=some (.int .i64 ((x 1))):=za hbw (by first|omega|(simp;omega)) hc2_2_3
   have hc3_2_4:wr.cell? ⟨w.heap.size+1+1,4,none⟩=some (.bool ((t 2))):=za hbw (by first|omega|(simp;omega)) hc2_2_4
   have hc3_2_5:wr.cell? ⟨w.heap.size+1+1,5,none⟩=some (.int .i64 ((x 2))):=za hbw (by first|omega|(simp;omega)) hc2_2_5
   have hy3_3:w.heap.size+1+1+1<wr.heap.size:=by have:=hbw.size;omega
   have hf3_3:∀o,wr.frozen? ⟨w.heap.size+1+1+1,o,none⟩=false:=fun o=>zZ hbw (by first|omega|(simp;omega)) (hf2_3 o)
   have hc3_3_0:wr.cell? ⟨w.heap.size+1+1+1,0,none⟩=some (.int .i64 0):=za hbw (by first|omega|(simp;omega)) hc2_3_0
   have hc3_3_1:wr.cell? ⟨w.heap.size+1+1+1,1,none⟩=some (.int .i64 0):=za hbw (by first|omega|(simp;omega)) hc2_3_1
   have hc3_3_2:wr.cell? ⟨w.heap.size+1+1+1,2,none⟩=some (.int .i64 0):=za hbw (by first|omega|(simp;omega)) hc2_3_2
   have hc3_3_3:wr.cell? ⟨w.heap.size+1+1+1,3,none⟩=some (.bool false):=za hbw (by first|omega|(simp;omega)) hc2_3_3
   have hc3_3_4:wr.cell? ⟨w.heap.size+1+1+1,4,none⟩=some (.bool false):=za hbw (by first|omega|(simp;omega)) hc2_3_4
   have hc3_3_5:wr.cell? ⟨w.heap.size+1+1+1,5,none⟩=some (.bool false):=za hbw (by first|omega|(simp;omega)) hc2_3_5
   have hc3_3_6:wr.cell? ⟨w.heap.size+1+1+1,6,none⟩=some (.int .i64 0):=za hbw (by first|omega|(simp;omega)) hc2_3_6
   have hy3_4:w.heap.size+1+1+1+1<wr.heap.size:=by have:=hbw.size;omega
   have hf3_4:∀o,wr.frozen? ⟨w.heap.size+1+1+1+1,o,none⟩=false:=fun o=>zZ hbw (by first|omega|(simp;omega)) (hf2_4 o)
   have hc3_4_0:wr.cell? ⟨w.heap.size+1+1+1+1,0,none⟩=some (.int .i64 0):=za hbw (by first|omega|(simp;omega)) hc2_4_0
   have hc3_4_1:wr.cell? ⟨w.heap.size+1+1+1+1,1,none⟩=some (.int .i64 0):=za hbw (by first|omega|(simp;omega)) hc2_4_1
   clear hf2_0 hc2_0_0 hc2_0_1 hc2_0_2 hc2_0_3 hc2_0_4 hc2_0_5 hc2_0_6 hf2_1 hc2_1_0 hc2_1_1 hf2_2 hc2_2_0 hc2_2_1 hc2_2_2 hc2_2_3 hc2_2_4 hc2_2_5 hf2_3 hc2_3_0 hc2_3_1 hc2_3_2 hc2_3_3 hc2_3_4 hc2_3_5 hc2_3_6 hf2_4 hc2_4_0 hc2_4_1
   go_wp2_with (first|(go_at_call 110;((with_reducible refine(VT A n c (fun k=>L[k]?.getD 0) last _ hgl hfin HR v hmid').mono ?_);rintro e w4 ⟨rfl,hb4⟩;have hz4:=hb4.size;(repeat(first|simp only[World.size_alloc]at hz4|simp only[World.size_drew]at hz4|simp only[World.size_setCell]at hz4));have hB4:Below w.heap.size w w4:=gW);(have hq4_0:=fun o:Nat=>hb4.cell (p:=⟨w.heap.size,o,none⟩) gO);(have hf4_0:=fun o:Nat=>hb4.frozen (p:=⟨w.heap.size,o,none⟩) gO);(have hy4_0:w.heap.size<w4.heap.size:=by omega);(have hq4_1:=fun o:Nat=>hb4.cell (p:=⟨w.heap.size+1,o,none⟩) gO);(have hf4_1:=fun o:Nat=>hb4.frozen (p:=⟨w.heap.size+1,o,none⟩) gO);(have hy4_1:w.heap.size+1<w4.heap.size:=by omega);(have hq4_2:=fun o:Nat=>hb4.cell (p:=⟨w.heap.size+1+1,o,none⟩) gO);(have hf4_2:=fun o:Nat=>hb4.frozen (p:=⟨w.heap.size+1+1,o,none⟩) gO);(have hy4_2:w.heap.size+1+1<w4.heap.size:=by omega);(have hq4_3:=fun o:Nat=>hb4.cell (p:=⟨w.heap.size+1+1+1,o,none⟩) gO);(have hf4_3:=fun o:Nat=>hb4.frozen (p:=⟨w.heap.size+1+1+1,o,none⟩) gO);(have hy4_3:w.heap.size+1+1+1<w4.heap.size:=by omega);(have hq4_4:=fun o:Nat=>hb4.cell (p:=⟨w.heap.size+1+1+1+1,o,none⟩) gO);(have hf4_4:=fun o:Nat=>hb4.frozen (p:=⟨w.heap.size+1+1+1+1,o,none⟩) gO);(have hy4_4:w.heap.size+1+1+1+1<w4.heap.size:=by omega);clear hb4))
   refine zT (fun ω=>Below w.heap.size w ω/\w.heap.size<ω.heap.size/\(∀o,ω.frozen? ⟨w.heap.size,o,none⟩=false)/\ω.cell? ⟨w.heap.size,0,none⟩=some (.int .i64 ((b 0)))/\ω.cell? ⟨w.heap.size,1,none⟩=some (.int .i64 ((b 1)))/\ω.cell? ⟨w.heap.size,2,none⟩=some (.int .i64 ((b 2)))/\ω.cell? ⟨w.heap.size,3,none⟩=some (.bool ((o 0)))/\ω.cell? ⟨w.heap.size,4,none⟩=some (.bool ((o 1)))/\ω.cell? ⟨w.heap.size,5,none⟩=some (.bool ((o 2)))/\ω.cell? ⟨w.heap.size,6,none⟩=some (.int .i64 last)/\w.heap.size+1<ω.heap.size/\(∀o,ω.frozen? ⟨w.heap.size+1,o,none⟩=false)/\ω.cell? ⟨w.heap.size+1,0,none⟩=some (.int .i64 limit)/\ω.cell? ⟨w.heap.size+1,1,none⟩=some (.int .i64 confirm)/\w.heap.size+1+1<ω.heap.size/\(∀o,ω.frozen? ⟨w.heap.size+1+1,o,none⟩=false)/\ω.cell? ⟨w.heap.size+1+1,0,none⟩=some (.bool ((t 0)))/\ω.cell? ⟨w.heap.size+1+1,1,none⟩=some (.int .i64 ((x 0)))/\ω.cell? ⟨w.heap.size+1+1,2,none⟩=some (.bool ((t 1)))/\ω.cell? ⟨w.heap.size+1+1,3,none⟩=some (.int .i64 ((x 1)))/\ω.cell? ⟨w.heap.size+1+1,4,none⟩=some (.bool ((t 2)))/\ω.cell? ⟨w.heap.size+1+1,5,none⟩=some (.int .i64 ((x 2)))/\w.heap.size+1+1+1<ω.heap.size/\(∀o,ω.frozen? ⟨w.heap.size+1+1+1,o,none⟩=false)/\ω.cell? ⟨w.heap.size+1+1+1,0,none⟩=some (.int .i64 0)/\ω.cell? ⟨w.heap.size+1+1+1,1,none⟩=some (.int .i64 0)/\ω.cell? ⟨w.heap.size+1+1+1,2,none⟩=some (.int .i64 0)/\ω.cell? ⟨w.heap.size+1+1+1,3,none⟩=some (.bool false)/\ω.cell? ⟨w.heap.size+1+1+1,4,none⟩=some (.bool false)/\ω.cell? ⟨w.heap.size+1+1+1,5,none⟩=some (.bool false)/\ω.cell? ⟨w.heap.size+1+1+1,6,none⟩=some (.int .i64 0)/\w.heap.size+1+1+1+1<ω.heap.size/\(∀o,ω.frozen? ⟨w.heap.size+1+1+1+1,o,none⟩=false)/\ω.cell? ⟨w.heap.size+1+1+1+1,0,none⟩=some (.int .i64 0)/\ω.cell? ⟨w.heap.size+1+1+1+1,1,none⟩=some (.int .i64 0)/\w4.heap.size<ω.heap.size/\(∀o,ω.frozen? ⟨w4.heap.size,o,none⟩=false)/\ω.cell? ⟨w4.heap.size,0,none⟩=some (.int .i64 v)/\ω.cell? ⟨w4.heap.size,1,none⟩=some (.int .i64 n)) ⟨gW,gS,gF,gC,gC,gC,gC,gC,gC,gC,gS,gF,gC,gC,gS,gF,gC,gC,gC,gC,gC,gC,gS,gF,gC,gC,gC,gC,gC,gC,gC,gS,gF,gC,gC,gS,gF,gC,gC⟩ ?_
   rintro w5 ⟨hB5,hy5_0,hf5_0,hc5_0_0,hc5_0_1,hc5_0_2,hc5_0_3,hc5_0_4,hc5_0_5,hc5_0_6,hy5_1,hf5_1,hc5_1_0,hc5_1_1,hy5_2,hf5_2,hc5_2_0,hc5_2_1,hc5_2_2,hc5_2_3,hc5_2_4,hc5_2_5,hy5_3,hf5_3,hc5_3_0,hc5_3_1,hc5_3_2,hc5_3_3,hc5_3_4,hc5_3_5,hc5_3_6,hy5_4,hf5_4,hc5_4_0,hc5_4_1,hy5_4_0,hf5_4_0,hc5_4_0_0,hc5_4_0_1⟩
   have hbk:BankAt w5 w5 w.heap.size (jI t o x v limit b 0) (j6 t o x v limit confirm b 0) last:=by
    refine⟨ZL _ _,fun j hj=>?_,fun j hj=>?_,hc5_0_6,hf5_0,hy5_0⟩
    ·rw[WF]
     match j,hj with
     |0,_=>exact hc5_0_0
     |1,_=>exact hc5_0_1
     |2,_=>exact hc5_0_2
    ·rw[WG]
     match j,hj with
     |0,_=>exact hc5_0_3
     |1,_=>exact hc5_0_4
     |2,_=>exact hc5_0_5
   clear hc5_0_0 hc5_0_1 hc5_0_2 hc5_0_3 hc5_0_4 hc5_0_5 hc5_0_6 hf5_0 hmid' HR hfin hbw hsz
   (try clear hc2_0_0);(try clear hc2_0_1);(try clear hc2_0_2);(try clear hc2_0_3);(try clear hc2_0_4);(try clear hc2_0_5);(try clear hc2_0_6);(try clear hf2_0);(try clear hy2_0);(try clear hq2_0);(try clear hc2_1_0);(try clear hc2_1_1);(try clear hf2_1);(try clear hy2_1);(try clear hq2_1);(try clear hc2_2_0);(try clear hc2_2_1);(try clear hc2_2_2);(try clear hc2_2_3);(try clear hc2_2_4);(try clear hc2_2_5);(try clear hf2_2);(try clear hy2_2);(try clear hq2_2);(try clear hc2_3_0);(try clear hc2_3_1);(try clear hc2_3_2);(try clear hc2_3_3);(try clear hc2_3_4);(try clear hc2_3_5);(try clear hc2_3_6);(try clear hf2_3);(try clear hy2_3);(try clear hq2_3);(try clear hc2_4_0);(try clear hc2_4_1);(try clear hf2_4);(try clear hy2_4);(try clear hq2_4);(try clear hB2);(try clear hz2)
   (try clear hc3_0_0);(try clear hc3_0_1);(try clear hc3_0_2);(try clear hc3_0_3);(try clear hc3_0_4);(try clear hc3_0_5);(try clear hc3_0_6);(try clear hf3_0);(try clear hy3_0);(try clear hq3_0);(try clear hc3_1_0);(try clear hc3_1_1);(try clear hf3_1);(try clear hy3_1);(try clear hq3_1);(try clear hc3_2_0);(try clear hc3_2_1);(try clear hc3_2_2);(try clear hc3_2_3);(try clear hc3_2_4);(try clear hc3_2_5);(try clear hf3_2);(try clear hy3_2);(try clear hq3_2);(try clear hc3_3_0);(try clear hc3_3_1);(try clear hc3_3_2);(try clear hc3_3_3);(try clear hc3_3_4);(try clear hc3_3_5);(try clear hc3_3_6);(try clear hf3_3);(try clear hy3_3);(try clear hq3_3);(try clear hc3_4_0);(try clear hc3_4_1);(try clear hf3_4);(try clear hy3_4);(try clear hq3_4);(try clear hB3);(try clear hz3)
   have hy40:=hy4_0
   have hy44:=hy4_4
   (try clear hc4_0_0);(try clear hc4_0_1);(try clear hc4_0_2);(try clear hc4_0_3);(try clear hc4_0_4);(try clear hc4_0_5);(try clear hc4_0_6);(try clear hf4_0);(try clear hy4_0);(try clear hq4_0);(try clear hc4_1_0);(try clear hc4_1_1);(try clear hf4_1);(try clear hy4_1);(try clear hq4_1);(try clear hc4_2_0);(try clear hc4_2_1);(try clear hc4_2_2);(try clear hc4_2_3);(try clear hc4_2_4);(try clear hc4_2_5);(try clear hf4_2);(try clear hy4_2);(try clear hq4_2);(try clear hc4_3_0);(try clear hc4_3_1);(try clear hc4_3_2);(try clear hc4_3_3);(try clear hc4_3_4);(try clear hc4_3_5);(try clear hc4_3_6);(try clear hf4_3);(try clear hy4_3);(try clear hq4_3);(try clear hc4_4_0);(try clear hc4_4_1);(try clear hf4_4);(try clear hy4_4);(try clear hq4_4);(try clear hB4);(try clear hz4)
   clear hy0
   go_loopw [53] (fun i wr=>∃k:Nat,k<=3/\i= .int .i64 k/\BankAt w5 wr w.heap.size (jI t o x v limit b k) (j6 t o x v limit confirm b k) last) (fun i _=>3-(intOf i).toNat)
   case atStart=>exact⟨0,by omega,rfl,hbk⟩
   case round=>
    obtain⟨k,hk,rfl,hbk⟩:=hrel
    have hG:=hbk.grown
    have hfr:=hbk.froz
    have hsz:=hG.size
    have hy0:w.heap.size<wr.heap.size:=by omega
    have hyr1:w.heap.size+1<wr.heap.size:=by omega
    have hyv:w4.heap.size<wr.heap.size:=by omega
    have r0:=zp hG hc5_1_0 (by simp)
    have r1:=zp hG hc5_1_1 (by simp)
    have rv:=zp hG hc5_4_0_0 (by omega)
    by_cases hlt:k<3
    ·have ix:=Q4 t x k hlt
     have hcb:=hbk.bad k hlt
     rw[ZR]at hcb
     have hco:=hbk.out k hlt
     rw[v7]at hco
     have hb01:=HB.out k hlt
     obtain⟨hb0,hb1⟩:=hb01
     by_cases ho:o k=true
     ·have hn:=hbk.same ho
      have HN:=Lib.hid hn
      rw[ho]at hco
      clear hn ho
      go_wp2_with fail
      go_roundw
      case rel=>exact⟨k+1,by omega,by go_num,HN.out.alloc _⟩
      case measure=>simp[intOf];omega
     ·have ho':o k=false:=by simpa using ho
      rw[ho']at hco
      have HO:=Lib.hid ho'
      clear ho ho'
      obtain⟨p,hp⟩:∃p,p=min (b k+1) 10:=⟨_,rfl⟩
      have mp:=kD (b k+1) 10 p hp
      by_cases hn:t k=true/\x k-v<=limit/\v-x k<=limit
      ·obtain⟨ht,n1,n2⟩:=hn
       have hx01:=HX.out k hlt ht
       obtain⟨hx0,hx1⟩:=hx01
       have HN:=Lib.hid (hbk.near hlt HO.out (by rw[ht];exact GL n1 n2))
       rw[ht]at ix
       clear ht hp mp
       go_wp2_with fail
       go_roundw
       case rel=>exact⟨k+1,by omega,by go_num,HN.out.alloc _⟩
       case measure=>simp[intOf];omega
      ·have hq1:1<=p:=by omega
       have hq2:p<=10:=by omega
       have hfa:wH (t k) (x k) v limit=false:=Ku (by
        by_cases ht:t k=true
        ·right
         by_cases n1:x k-v<=limit
         ·by_cases n2:v-x k<=limit
          ·exact absurd ⟨ht,n1,n2⟩ hn
          ·omega
         ·omega
        ·left;simpa using ht)
       have HN:=Lib.hid (hbk.far hlt HO.out hfa p hp)
       clear hfa hp
       by_cases ht:t k=true
       ·have hx01:=HX.out k hlt ht
        obtain⟨hx0,hx1⟩:=hx01
        by_cases n1:x k-v<=limit
        ·have n2:limit<v-x k:=by
          by_cases n2:v-x k<=limit
          ·exact absurd ⟨ht,n1,n2⟩ hn
          ·omega
         rw[ht]at ix
         clear ht hn
         go_wp2_with fail
         go_region
         all_goals
          go_wp2_with fail
          go_roundw
          case rel=>exact⟨k+1,by omega,by go_num,(HN.out.alloc _).drew⟩
          case measure=>simp[intOf];omega
        ·have n2:limit<x k-v:=by omega
         rw[ht]at ix
         clear ht hn n1
         go_wp2_with fail
         go_region
         all_goals
          go_wp2_with fail
          go_roundw
          case rel=>exact⟨k+1,by omega,by go_num,(HN.out.alloc _).drew⟩
          case measure=>simp[intOf];omega
       ·have ht':t k=false:=by simpa using ht
        rw[ht']at ix
        clear ht ht' hn
        go_wp2_with fail
        go_region
        all_goals
         go_wp2_with fail
         go_roundw
         case rel=>exact⟨k+1,by omega,by go_num,(HN.out.alloc _).drew⟩
         case measure=>simp[intOf];omega
    ·have hk3:k=3:=by omega
     have hbe:BankAt w5 wr w.heap.size bn on last:=by
      rw[hk3]at hbk
      exact hbk.congr hbn.out hon.out
     clear hbk hk3
     have d0:=hbe.bad 0 (by omega)
     have d1:=hbe.bad 1 (by omega)
     have d2:=hbe.bad 2 (by omega)
     have d3:=hbe.out 0 (by omega)
     have d4:=hbe.out 1 (by omega)
     have d5:=hbe.out 2 (by omega)
     have d6:=hbe.last
     have hbb:=xz hbe.grown (B:=w.heap.size) (Nat.le_refl _) (by omega)
     have rv1:=zp hG hc5_4_0_1 (by omega)
     have e30:=zp hG hc5_3_0 (by omega)
     have e31:=zp hG hc5_3_1 (by omega)
     have e32:=zp hG hc5_3_2 (by omega)
     have e33:=zp hG hc5_3_3 (by omega)
     have e34:=zp hG hc5_3_4 (by omega)
     have e35:=zp hG hc5_3_5 (by omega)
     have e36:=zp hG hc5_3_6 (by omega)
     have e40:=zp hG hc5_4_0 (by omega)
     have e41:=zp hG hc5_4_1 (by omega)
     have f3:∀o,wr.frozen? ⟨w.heap.size+1+1+1,o,none⟩=false:=fun o=>(y0 hG (by omega) (by omega) o).trans (hf5_3 o)
     have f4:∀o,wr.frozen? ⟨w.heap.size+1+1+1+1,o,none⟩=false:=fun o=>(y0 hG (by omega) (by omega) o).trans (hf5_4 o)
     have hB55:=hB5
     (try clear hc5_0_0);(try clear hc5_0_1);(try clear hc5_0_2);(try clear hc5_0_3);(try clear hc5_0_4);(try clear hc5_0_5);(try clear hc5_0_6);(try clear hf5_0);(try clear hy5_0);(try clear hq5_0);(try clear hc5_1_0);(try clear hc5_1_1);(try clear hf5_1);(try clear hy5_1);(try clear hq5_1);(try clear hc5_2_0);(try clear hc5_2_1);(try clear hc5_2_2);(try clear hc5_2_3);(try clear hc5_2_4);(try clear hc5_2_5);(try clear hf5_2);(try clear hy5_2);(try clear hq5_2);(try clear hc5_3_0);(try clear hc5_3_1);(try clear hc5_3_2);(try clear hc5_3_3);(try clear hc5_3_4);(try clear hc5_3_5);(try clear hc5_3_6);(try clear hf5_3);(try clear hy5_3);(try clear hq5_3);(try clear hc5_4_0);(try clear hc5_4_1);(try clear hf5_4);(try clear hy5_4);(try clear hq5_4);(try clear hc5_4_0_0);(try clear hc5_4_0_1);(try clear hf5_4_0);(try clear hy5_4_0);(try clear hq5_4_0);(try clear hB5);(try clear hz5)
     clear hG
     have g1:¬w.heap.size+1+1+1=w4.heap.size:=by omega
     have g2:¬w4.heap.size=w.heap.size+1+1+1:=by omega
     have g3:¬w.heap.size+1+1+1+1=w4.heap.size:=by omega
     have g4:¬w4.heap.size=w.heap.size+1+1+1+1:=by omega
     have g5:¬w.heap.size=w4.heap.size:=by omega
     have g6:¬w4.heap.size=w.heap.size:=by omega
     go_wp2_with fail
     go_region
     all_goals
      go_wp2_with fail
      refine bodyPost_ret (v:= .tuple #[.agg #[.int .i64 (bn 0),.int .i64 (bn 1),.int .i64 (bn 2),.bool (on 0),.bool (on 1),.bool (on 2),.int .i64 v],.agg #[.int .i64 v,.int .i64 n],qp 0]) ?_ rfl ⟨rfl,gW⟩
      simp[results,Tryz.results74,go_sem,e30,e31,e32,e33,e34,e35,e36,e40,e41,f3,f4]
      rfl
end Go.Proofs.YtoakpnoajmngmaaGreatDoor
