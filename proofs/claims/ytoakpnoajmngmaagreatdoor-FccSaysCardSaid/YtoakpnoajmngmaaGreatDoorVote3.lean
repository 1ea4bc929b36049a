import Derived.Test.YtoakpnoajmngmaaGreatDoorFix
import Derived.Test.YtoakpnoajmngmaaGreatDoorVote
import Derived.Test.YtoakpnoajmngmaaGreatDoorWgPl
import Derived.Deep.DeepCutAuto
set_option linter.unusedVariables false
set_option linter.unusedSimpArgs false
namespace Go.Proofs.YtoakpnoajmngmaaGreatDoor
open Go.RowKit
set_option maxHeartbeats 400000 in
theorem vJ (lo hi noise push most rate l h room:Int) (w:World) (hr:1<=rate) (hr2:rate<=4000) (h0: -8000<=l) (h1:l<=h) (h2:h<=4000) (hp:0<=push) (hp2:push<=2000) (r:Int) (q:Unit->kk push rate l h room=r):
  Calls Tryz.prog 149 #[.agg #[.int .i64 lo,.int .i64 hi,.int .i64 noise,.int .i64 push,.int .i64 most,.int .i64 rate],.int .i64 l,.int .i64 h,.int .i64 room] w fun e w'=>e= .returned (.int .i64 r)/\Below w.heap.size w w':=by
 go_enter Tryz.func149,Tryz.ntmps149
 go_wp2_with fail
 refine zT (fun ω=>Below w.heap.size w ω/\w.heap.size<ω.heap.size/\(∀o,ω.frozen? ⟨w.heap.size,o,none⟩=false)/\ω.cell? ⟨w.heap.size,0,none⟩=some (.int .i64 lo)/\ω.cell? ⟨w.heap.size,1,none⟩=some (.int .i64 hi)/\ω.cell? ⟨w.heap.size,2,none⟩=some (.int .i64 noise)/\ω.cell? ⟨w.heap.size,3,none⟩=some (.int .i64 push)/\ω.cell? ⟨w.heap.size,4,none⟩=some (.int .i64 most)/\ω.cell? ⟨w.heap.size,5,none⟩=some (.int .i64 rate)) ⟨gW,gS,gF,gC,gC,gC,gC,gC,gC⟩ ?_
 rintro w1 ⟨hB1,hy1_0,hf1_0,hc1_0_0,hc1_0_1,hc1_0_2,hc1_0_3,hc1_0_4,hc1_0_5⟩
 go_loopw [1,2] (fun a b wr=>∃x y:Int,a= .int .i64 x/\b= .int .i64 y/\l<=x/\x<=y/\y<=h/\Hid (x=l\/zE push rate x<=room)/\Hid (y=h\/room<zE push rate (y+1))/\Below w1.heap.size w1 wr) (fun a b _=>(intOf b-intOf a).toNat)
 case atStart=>exact⟨l,h,rfl,rfl,Int.le_refl _,h1,Int.le_refl _,.inl rfl,.inl rfl,Below.refl _ _⟩
 case round=>
  obtain⟨x,y,rfl,rfl,g1,g2,g3,g4,g5,hbw⟩:=hrel
  have hbws:=hbw.size
  have c0:wr.cell? ⟨w.heap.size,0,none⟩=some (.int .i64 lo):=za hbw hy1_0 hc1_0_0
  have c1:wr.cell? ⟨w.heap.size,1,none⟩=some (.int .i64 hi):=za hbw hy1_0 hc1_0_1
  have c2:wr.cell? ⟨w.heap.size,2,none⟩=some (.int .i64 noise):=za hbw hy1_0 hc1_0_2
  have c3:wr.cell? ⟨w.heap.size,3,none⟩=some (.int .i64 push):=za hbw hy1_0 hc1_0_3
  have c4:wr.cell? ⟨w.heap.size,4,none⟩=some (.int .i64 most):=za hbw hy1_0 hc1_0_4
  have c5:wr.cell? ⟨w.heap.size,5,none⟩=some (.int .i64 rate):=za hbw hy1_0 hc1_0_5
  clear hc1_0_0 hc1_0_1 hc1_0_2 hc1_0_3 hc1_0_4 hc1_0_5
  by_cases hlt:x<y
  ·have k1:x<(x+y+1)/2:=by omega
   have k2:(x+y+1)/2<=y:=by omega
   go_wp2_with (first|(go_at_call 151;((with_reducible refine(Zj _ _ _ _ _ _ _ _ (by omega) (by omega) (by omega) (by omega) (by omega) (by omega)).mono ?_);rintro e w' ⟨rfl,rfl⟩)))
   ·go_roundw
    case rel=>exact⟨_,_,rfl,rfl,by omega,by omega,by omega,.inr (by assumption),g5,gW⟩
    case measure=>simp[intOf];omega
   ·go_roundw
    case rel=>exact⟨_,_,rfl,rfl,by omega,by omega,by omega,g4,.inr (by rw[Int.sub_add_cancel];omega),gW⟩
    case measure=>simp[intOf];omega
  ·have hxy:x=y:=by omega
   have g6:Hid (x=r):=(Xi hr h1 ⟨g1,by omega,g4.out,by rw[hxy];exact g5.out⟩).symm.trans (q ())
   clear q g4 g5 hxy
   go_wp2_with fail
   go_ret
   exact⟨zD g6.out,gW⟩
set_option maxHeartbeats 400000 in
theorem ZD (lo hi noise push most rate l h room:Int) (w:World) (hr:1<=rate) (hr2:rate<=4000) (h0: -8000<=l) (h1:l<=h) (h2:h<=4000) (hp:0<=push) (hp2:push<=2000) (r:Int) (q:Unit->kk push rate l h room=r):
  Calls Tryz.prog 102 #[.agg #[.int .i64 lo,.int .i64 hi,.int .i64 noise,.int .i64 push,.int .i64 most,.int .i64 rate],.int .i64 l,.int .i64 h,.int .i64 room] w fun e w'=>e= .returned (.int .i64 r)/\Below w.heap.size w w':=by
 go_enter Tryz.func102,Tryz.ntmps102
 go_wp2_with fail
 refine zT (fun ω=>Below w.heap.size w ω/\w.heap.size<ω.heap.size/\(∀o,ω.frozen? ⟨w.heap.size,o,none⟩=false)/\ω.cell? ⟨w.heap.size,0,none⟩=some (.int .i64 lo)/\ω.cell? ⟨w.heap.size,1,none⟩=some (.int .i64 hi)/\ω.cell? ⟨w.heap.size,2,none⟩=some (.int .i64 noise)/\ω.cell? ⟨w.heap.size,3,none⟩=some (.int .i64 push)/\ω.cell? ⟨w.heap.size,4,none⟩=some (.int .i64 most)/\ω.cell? ⟨w.heap.size,5,none⟩=some (.int .i64 rate)) ⟨gW,gS,gF,gC,gC,gC,gC,gC,gC⟩ ?_
 rintro w1 ⟨hB1,hy1_0,hf1_0,hc1_0_0,hc1_0_1,hc1_0_2,hc1_0_3,hc1_0_4,hc1_0_5⟩
 go_loopw [2] (fun a wr=>∃y:Int,a= .int .i64 y/\l<=y/\y<=h/\Hid (kk push rate l y room=r)/\Below w1.heap.size w1 wr) (fun a _=>(intOf a-l).toNat)
 case atStart=>exact⟨h,rfl,h1,Int.le_refl _,q (),Below.refl _ _⟩
 case round=>
  obtain⟨y,rfl,g1,g2,g3,hbw⟩:=hrel
  have hbws:=hbw.size
  have c0:wr.cell? ⟨w.heap.size,0,none⟩=some (.int .i64 lo):=za hbw hy1_0 hc1_0_0
  have c1:wr.cell? ⟨w.heap.size,1,none⟩=some (.int .i64 hi):=za hbw hy1_0 hc1_0_1
  have c2:wr.cell? ⟨w.heap.size,2,none⟩=some (.int .i64 noise):=za hbw hy1_0 hc1_0_2
  have c3:wr.cell? ⟨w.heap.size,3,none⟩=some (.int .i64 push):=za hbw hy1_0 hc1_0_3
  have c4:wr.cell? ⟨w.heap.size,4,none⟩=some (.int .i64 most):=za hbw hy1_0 hc1_0_4
  have c5:wr.cell? ⟨w.heap.size,5,none⟩=some (.int .i64 rate):=za hbw hy1_0 hc1_0_5
  clear q hc1_0_0 hc1_0_1 hc1_0_2 hc1_0_3 hc1_0_4 hc1_0_5
  by_cases hlt:l<y
  ·by_cases hb:room<zE push rate y
   ·have g4:Hid (kk push rate l (y-1) room=r):=(G8 hlt hb).symm.trans g3.out
    clear g3
    go_wp2_with (first|(go_at_call 94;((with_reducible refine(Z4 _ _ _ _ _ _ _ _ (by omega) (by omega) (by omega) (by omega) (by omega) (by omega)).mono ?_);rintro e w' ⟨rfl,rfl⟩)))
    go_roundw
    case rel=>exact⟨y-1,by go_num,by omega,by omega,g4,gW⟩
    case measure=>simp[intOf];omega
   ·have g4:Hid (y=r):=(gG hr (by omega) (by omega)).symm.trans g3.out
    clear g3
    go_wp2_with (first|(go_at_call 94;((with_reducible refine(Z4 _ _ _ _ _ _ _ _ (by omega) (by omega) (by omega) (by omega) (by omega) (by omega)).mono ?_);rintro e w' ⟨rfl,rfl⟩)))
    go_ret
    exact⟨zD g4.out,gW⟩
  ·have hyl:y=l:=by omega
   have g4:Hid (y=r):=by have:=g3.out;rw[hyl,Wz]at this;rw[hyl];exact this
   clear g3 hyl
   go_wp2_with fail
   go_ret
   exact⟨zD g4.out,gW⟩
end Go.Proofs.YtoakpnoajmngmaaGreatDoor
namespace Go.Proofs.YtoakpnoajmngmaaGreatDoor
open Go.RowKit
theorem jP (x lo hi m:Int) (w:World) (h:Unit->zm x lo hi=m):Calls Tryz.prog 80 #[.int .i64 x,.int .i64 lo,.int .i64 hi] w fun e w'=>e= .returned (.int .i64 m)/\w=w':=by
 rw[<-h ()];exact kL x lo hi w
theorem jq (x lo hi m:Int) (w:World) (hle:lo<=hi) (h:Unit->zm x lo hi=m):Calls Tryz.prog 65 #[.int .i64 x,.int .i64 lo,.int .i64 hi] w fun e w'=>e= .returned (.int .i64 m)/\w=w':=by
 have:=WH x lo hi w
 rwa[wD x lo hi hle,h ()]at this
theorem zaO (most rate prev:Int):(if prev-rate> -most then prev-rate else -most)=Zd most rate prev:=by unfold Zd;split<;>omega
theorem zaP (most rate prev:Int):(if prev+rate<most then prev+rate else most)=Ze most rate prev:=by unfold Ze;split<;>omega
theorem zmR {lo hi noise push most rate s:Int} (h:por (zs lo hi noise push most rate) (jC most s)=0):
  j7 lo hi noise push most rate/\ -most<=s/\s<=most/\push<=most/\push<=rate/\2*(noise+zE push rate most)<=hi-lo:=by
 have hg:zs lo hi noise push most rate=0:=by
  unfold por at h;split at h
  ·assumption
  ·exact h
 have ha: -most<=s/\s<=most:=by
  rw[hg,vV]at h;unfold jC at h;split at h
  ·omega
  ·omega
 have hf:=xx hg
 exact⟨hf.1,ha.1,ha.2,hf.2.1,hf.2.2.1,hf.2.2.2⟩
set_option maxHeartbeats 400000 in
theorem Q5 (lo hi noise push most rate x prev a b y up low:Int) (w:World) (g:j7 lo hi noise push most rate) (H:Hid (por (zs lo hi noise push most rate) (jC most prev)=0)) (d1: -most<=prev) (d2:prev<=most)
  (ca:(if prev-rate> -most then prev-rate else -most)=a) (cb:(if prev+rate<most then prev+rate else most)=b) (b1: -4000<=a) (b2:a<=b) (b3:b<=4000) (hy:Unit->zm x (-2000000) 2000000=y) (y1: -2000000<=y) (y2:y<=2000000)
  (hup:Unit->kk push rate a b (hi-noise-y)=up) (hlow:Unit->kk push rate (-b) (-a) (y-noise-lo)=low) (u1: -4000<=up) (u2:up<=4000) (u3: -4000<=low) (u4:low<=4000):
  Calls Tryz.prog 114 #[.agg #[.int .i64 lo,.int .i64 hi,.int .i64 noise,.int .i64 push,.int .i64 most,.int .i64 rate],.int .i64 x,.int .i64 prev] w fun e w'=>
   e= .returned (.tuple #[.agg #[.int .i64 (-low),.int .i64 up],qp 0])/\Below w.heap.size w w':=by
 obtain⟨a1,a2,a3,a4,a5,a6,a7,a8,a9,a10,a11,a12⟩:=g
 have hz:(por (zs lo hi noise push most rate) (jC most prev) !=0)=false:=by rw[H.out];rfl
 have m1:∀(ts:Array TypeId) (t:TypeId) (w:World),(Builtin.max_ ts t #[.int .i64 (-most),.int .i64 (prev-rate)]).run Tryz.prog w= .ok (.int .i64 a) w:=fun ts t w=>by rw[run_max_int2,ca]
 have m2:∀(ts:Array TypeId) (t:TypeId) (w:World),(Builtin.min_ ts t #[.int .i64 most,.int .i64 (prev+rate)]).run Tryz.prog w= .ok (.int .i64 b) w:=fun ts t w=>by rw[run_min_int2,cb]
 clear ca cb
 go_enter Tryz.func114,Tryz.ntmps114
 go_upto_region 7 with(first|(go_at_call 148;((with_reducible refine(VP _ _ _ _ _ _ _ _).mono ?_);rintro e w1 ⟨rfl,hb1⟩;have hz1:=hb1.size;(repeat(first|simp only[World.size_alloc]at hz1|simp only[World.size_drew]at hz1|simp only[World.size_setCell]at hz1));have hB1:Below w.heap.size w w1:=gW);(have hq1_0:=fun o:Nat=>hb1.cell (p:=⟨w.heap.size,o,none⟩) gO);(have hf1_0:=fun o:Nat=>hb1.frozen (p:=⟨w.heap.size,o,none⟩) gO);(have hy1_0:w.heap.size<w1.heap.size:=by omega);(have hq1_1:=fun o:Nat=>hb1.cell (p:=⟨w.heap.size+1,o,none⟩) gO);(have hf1_1:=fun o:Nat=>hb1.frozen (p:=⟨w.heap.size+1,o,none⟩) gO);(have hy1_1:w.heap.size+1<w1.heap.size:=by omega);clear hb1)|(go_at_call 80;((with_reducible refine(jP _ _ _ y _ hy).mono ?_);rintro e w' ⟨rfl,rfl⟩)))
 refine zT (fun ω=>Below w.heap.size w ω/\w.heap.size<ω.heap.size/\(∀o,ω.frozen? ⟨w.heap.size,o,none⟩=false)/\ω.cell? ⟨w.heap.size,0,none⟩=some (.int .i64 lo)/\ω.cell? ⟨w.heap.size,1,none⟩=some (.int .i64 hi)/\ω.cell? ⟨w.heap.size,2,none⟩=some (.int .i64 noise)/\ω.cell? ⟨w.heap.size,3,none⟩=some (.int .i64 push)/\ω.cell? ⟨w.heap.size,4,none⟩=some (.int .i64 most)/\ω.cell? ⟨w.heap.size,5,none⟩=some (.int .i64 rate)/\w.heap.size+1<ω.heap.size/\(∀o,ω.frozen? ⟨w.heap.size+1,o,none⟩=false)/\ω.cell? ⟨w.heap.size+1,0,none⟩=some (.int .i64 0)/\ω.cell? ⟨w.heap.size+1,1,none⟩=some (.int .i64 0)/\w1.heap.size<ω.heap.size/\(∀o,ω.frozen? ⟨w1.heap.size,o,none⟩=false)/\ω.cell? ⟨w1.heap.size,0,none⟩=some (.int .i64 a)/\ω.cell? ⟨w1.heap.size,1,none⟩=some (.int .i64 b)) ⟨gW,gS,gF,gC,gC,gC,gC,gC,gC,gS,gF,gC,gC,gS,gF,gC,gC⟩ ?_
 rintro w4 ⟨hB4,hy4_0,hf4_0,hc4_0_0,hc4_0_1,hc4_0_2,hc4_0_3,hc4_0_4,hc4_0_5,hy4_1,hf4_1,hc4_1_0,hc4_1_1,hy4_1_0,hf4_1_0,hc4_1_0_0,hc4_1_0_1⟩
 clear hq1_0 hq1_1 hf1_0 hf1_1 hB1 hz H m1 m2
 go_wp2_with (first|(go_at_call 149;((with_reducible refine(vJ _ _ _ _ _ _ _ _ _ _ (by omega) (by omega) (by omega) (by omega) (by omega) (by omega) (by omega) up hup).mono ?_);rintro e w2 ⟨rfl,hb2⟩;have hz2:=hb2.size;(repeat(first|simp only[World.size_alloc]at hz2|simp only[World.size_drew]at hz2|simp only[World.size_setCell]at hz2));have hB2:Below w.heap.size w w2:=gW);(have hq2_0:=fun o:Nat=>hb2.cell (p:=⟨w.heap.size,o,none⟩) gO);(have hf2_0:=fun o:Nat=>hb2.frozen (p:=⟨w.heap.size,o,none⟩) gO);(have hy2_0:w.heap.size<w2.heap.size:=by omega);(have hq2_1:=fun o:Nat=>hb2.cell (p:=⟨w.heap.size+1,o,none⟩) gO);(have hf2_1:=fun o:Nat=>hb2.frozen (p:=⟨w.heap.size+1,o,none⟩) gO);(have hy2_1:w.heap.size+1<w2.heap.size:=by omega);(have hq2_1_0:=fun o:Nat=>hb2.cell (p:=⟨w1.heap.size,o,none⟩) gO);(have hf2_1_0:=fun o:Nat=>hb2.frozen (p:=⟨w1.heap.size,o,none⟩) gO);(have hy2_1_0:w1.heap.size<w2.heap.size:=by omega);clear hb2)|(go_at_call 149;((with_reducible refine(vJ _ _ _ _ _ _ _ _ _ _ (by omega) (by omega) (by omega) (by omega) (by omega) (by omega) (by omega) low hlow).mono ?_);rintro e w3 ⟨rfl,hb3⟩;have hz3:=hb3.size;(repeat(first|simp only[World.size_alloc]at hz3|simp only[World.size_drew]at hz3|simp only[World.size_setCell]at hz3));have hB3:Below w.heap.size w w3:=gW);(have hq3_0:=fun o:Nat=>hb3.cell (p:=⟨w.heap.size,o,none⟩) gO);(have hf3_0:=fun o:Nat=>hb3.frozen (p:=⟨w.heap.size,o,none⟩) gO);(have hy3_0:w.heap.size<w3.heap.size:=by omega);(have hq3_1:=fun o:Nat=>hb3.cell (p:=⟨w.heap.size+1,o,none⟩) gO);(have hf3_1:=fun o:Nat=>hb3.frozen (p:=⟨w.heap.size+1,o,none⟩) gO);(have hy3_1:w.heap.size+1<w3.heap.size:=by omega);(have hq3_1_0:=fun o:Nat=>hb3.cell (p:=⟨w1.heap.size,o,none⟩) gO);(have hf3_1_0:=fun o:Nat=>hb3.frozen (p:=⟨w1.heap.size,o,none⟩) gO);(have hy3_1_0:w1.heap.size<w3.heap.size:=by omega);clear hb3))
 have g0:w3.cell? ⟨w.heap.size+1,0,none⟩=some (.int .i64 0):=by go_simp
 have g1:w3.cell? ⟨w.heap.size+1,1,none⟩=some (.int .i64 0):=by go_simp
 refine bodyPost_ret (v:= .tuple #[.agg #[.int .i64 (-low),.int .i64 up],qp 0]) ?_ rfl ⟨rfl,gW⟩
 simp[results,Tryz.results114,go_sem,zeN,g0,g1]
theorem Q6 (lo hi noise push most rate x prev dn up:Int) (w:World) (H:Hid (por (zs lo hi noise push most rate) (jC most prev)=0)) (h1:Unit->pdn lo hi noise push most rate x prev=dn) (h2:Unit->pup lo hi noise push most rate x prev=up):
  Calls Tryz.prog 114 #[.agg #[.int .i64 lo,.int .i64 hi,.int .i64 noise,.int .i64 push,.int .i64 most,.int .i64 rate],.int .i64 x,.int .i64 prev] w fun e w'=>
   e= .returned (.tuple #[.agg #[.int .i64 dn,.int .i64 up],qp 0])/\Below w.heap.size w w':=by
 obtain⟨g,d1,d2,p1,p2,p3⟩:=zmR H.out
 obtain⟨a1,a2,a3,a4,a5,a6,a7,a8,a9,a10,a11,a12⟩:=id g
 have hb:=gH (lo:=lo) (hi:=hi) (noise:=noise) (push:=push) (x:=x) a11 a9 d1 d2
 have hl1: -most<=Zd most rate prev:=by unfold Zd;omega
 have hl2:Ze most rate prev<=most:=by unfold Ze;omega
 have hc:=Xa x (-2000000) 2000000 (by omega)
 have hc2:=Xb x (-2000000) 2000000 (by omega)
 have e1:=h1 ()
 have e2:=h2 ()
 have:=Q5 lo hi noise push most rate x prev (Zd most rate prev) (Ze most rate prev) _ up (-dn) w g H d1 d2 (zaO _ _ _) (zaP _ _ _) (by omega) (ZQ a9 a11 d1 d2) (by omega) (fun _=>rfl) hc hc2 (fun _=>e2)
  (fun _=>by rw[<-e1];unfold pdn;omega) (by omega) (by omega) (by omega) (by omega)
 rwa[Int.neg_neg]at this
set_option maxHeartbeats 400000 in
theorem YP (lo hi noise push most rate x prev a b y up low:Int) (w:World) (g:j7 lo hi noise push most rate) (p1:push<=most) (d1: -most<=prev) (d2:prev<=most)
  (ca:(if prev-rate> -most then prev-rate else -most)=a) (cb:(if prev+rate<most then prev+rate else most)=b) (b1: -4000<=a) (b2:a<=b) (b3:b<=4000) (hy:Unit->zm x (-2000000) 2000000=y) (y1: -2000000<=y) (y2:y<=2000000)
  (hup:Unit->kk push rate a b (hi-noise-y)=up) (hlow:Unit->kk push rate (-b) (-a) (y-noise-lo)=low) (u1: -4000<=up) (u2:up<=4000) (u3: -4000<=low) (u4:low<=4000):
  Calls Tryz.prog 68 #[.agg #[.int .i64 lo,.int .i64 hi,.int .i64 noise,.int .i64 push,.int .i64 most,.int .i64 rate],.int .i64 x,.int .i64 prev] w fun e w'=>
   e= .returned (.agg #[.int .i64 (-low),.int .i64 up])/\Below w.heap.size w w':=by
 obtain⟨a1,a2,a3,a4,a5,a6,a7,a8,a9,a10,a11,a12⟩:=g
 have m1:∀(ts:Array TypeId) (t:TypeId) (w:World),(Builtin.max_ ts t #[.int .i64 (-most),.int .i64 (prev-rate)]).run Tryz.prog w= .ok (.int .i64 a) w:=fun ts t w=>by rw[run_max_int2,ca]
 have m2:∀(ts:Array TypeId) (t:TypeId) (w:World),(Builtin.min_ ts t #[.int .i64 most,.int .i64 (prev+rate)]).run Tryz.prog w= .ok (.int .i64 b) w:=fun ts t w=>by rw[run_min_int2,cb]
 clear ca cb
 go_enter Tryz.func68,Tryz.ntmps68
 go_upto_region 2 with(first|(go_at_call 65;((with_reducible refine(jq _ _ _ y _ (by omega) hy).mono ?_);rintro e w' ⟨rfl,rfl⟩)))
 go_cut [7,8] (fun s7 s8 ω=>s7= .int .i64 a/\s8= .int .i64 b/\Below w.heap.size w ω/\w.heap.size<ω.heap.size/\(∀o,ω.frozen? ⟨w.heap.size,o,none⟩=false)/\ω.cell? ⟨w.heap.size,0,none⟩=some (.int .i64 lo)/\ω.cell? ⟨w.heap.size,1,none⟩=some (.int .i64 hi)/\ω.cell? ⟨w.heap.size,2,none⟩=some (.int .i64 noise)/\ω.cell? ⟨w.heap.size,3,none⟩=some (.int .i64 push)/\ω.cell? ⟨w.heap.size,4,none⟩=some (.int .i64 most)/\ω.cell? ⟨w.heap.size,5,none⟩=some (.int .i64 rate)/\w.heap.size+1<ω.heap.size/\(∀o,ω.frozen? ⟨w.heap.size+1,o,none⟩=false)/\ω.cell? ⟨w.heap.size+1,0,none⟩=some (.int .i64 0)/\ω.cell? ⟨w.heap.size+1,1,none⟩=some (.int .i64 0))
 case first=>
  go_region
  all_goals(go_wp2_with fail;go_meet;exact⟨rfl,rfl,gW,gS,gF,gC,gC,gC,gC,gC,gC,gS,gF,gC,gC⟩)
 obtain⟨rfl,rfl,hB4,hy4_0,hf4_0,hc4_0_0,hc4_0_1,hc4_0_2,hc4_0_3,hc4_0_4,hc4_0_5,hy4_1,hf4_1,hc4_1_0,hc4_1_1⟩:=hcut
 obtain⟨w4,rfl⟩:∃x:World,x=wc:=⟨_,rfl⟩
 clear m1 m2
 have e1:IntKind.i64.wrap (-b)= -b:=IntWalk.i64_in _ (by omega)
 have e2:IntKind.i64.wrap (-a)= -a:=IntWalk.i64_in _ (by omega)
 have e3:IntKind.i64.wrap (y-noise)=y-noise:=IntWalk.i64_in _ (by omega)
 have e4:IntKind.i64.wrap (y-noise-lo)=y-noise-lo:=IntWalk.i64_in _ (by omega)
 have e5:IntKind.i64.wrap (hi-noise)=hi-noise:=IntWalk.i64_in _ (by omega)
 have e6:IntKind.i64.wrap (hi-noise-y)=hi-noise-y:=IntWalk.i64_in _ (by omega)
 have e7:IntKind.i64.wrap (-low)= -low:=IntWalk.i64_in _ (by omega)
 go_wp2_with fail
 go_region_held3 (fun ω=>ω.cell? ⟨w.heap.size,0,none⟩=some (.int .i64 lo)/\ω.cell? ⟨w.heap.size,1,none⟩=some (.int .i64 hi)/\ω.cell? ⟨w.heap.size,2,none⟩=some (.int .i64 noise)/\ω.cell? ⟨w.heap.size,3,none⟩=some (.int .i64 push)/\ω.cell? ⟨w.heap.size,4,none⟩=some (.int .i64 most)/\ω.cell? ⟨w.heap.size,5,none⟩=some (.int .i64 rate)) (first|(refine⟨?_,?_,?_,?_,?_,?_⟩<;>(repeat'(first|(with_reducible assumption)|(with_reducible refine zn ?_)|(with_reducible refine zt ?_)|(with_reducible refine zw ?_)|(with_reducible refine zS ?_ ?_)|(with_reducible refine za (by assumption) ?_ ?_)|omega|(simp;done)|(simp;omega)))<;>done)|go_keep) (first|(go_at_call 102;((with_reducible refine(ZD _ _ _ _ _ _ _ _ _ _ (by omega) (by omega) (by omega) (by omega) (by omega) (by omega) (by omega) up hup).mono ?_);rintro e w2 ⟨rfl,hb2⟩;have hz2:=hb2.size;(repeat(first|simp only[World.size_alloc]at hz2|simp only[World.size_drew]at hz2|simp only[World.size_setCell]at hz2)));(have hq2_0:=fun o:Nat=>hb2.cell (p:=⟨w.heap.size,o,none⟩) gO);(have hf2_0:=fun o:Nat=>hb2.frozen (p:=⟨w.heap.size,o,none⟩) gO);(have hy2_0:w.heap.size<w2.heap.size:=by omega);(have hq2_1:=fun o:Nat=>hb2.cell (p:=⟨w.heap.size+1,o,none⟩) gO);(have hf2_1:=fun o:Nat=>hb2.frozen (p:=⟨w.heap.size+1,o,none⟩) gO);(have hy2_1:w.heap.size+1<w2.heap.size:=by omega))|(go_at_call 102;((with_reducible refine(ZD _ _ _ _ _ _ _ _ _ _ (by omega) (by omega) (by omega) (by omega) (by omega) (by omega) (by omega) low hlow).mono ?_);rintro e w3 ⟨rfl,hb3⟩;have hz3:=hb3.size;(repeat(first|simp only[World.size_alloc]at hz3|simp only[World.size_drew]at hz3|simp only[World.size_setCell]at hz3)));(have hq3_0:=fun o:Nat=>hb3.cell (p:=⟨w.heap.size,o,none⟩) gO);(have hf3_0:=fun o:Nat=>hb3.frozen (p:=⟨w.heap.size,o,none⟩) gO);(have hy3_0:w.heap.size<w3.heap.size:=by omega);(have hq3_1:=fun o:Nat=>hb3.cell (p:=⟨w.heap.size+1,o,none⟩) gO);(have hf3_1:=fun o:Nat=>hb3.frozen (p:=⟨w.heap.size+1,o,none⟩) gO);(have hy3_1:w.heap.size+1<w3.heap.size:=by omega)))
 all_goals
  go_wp2_with fail
  refine bodyPost_ret (v:= .agg #[.int .i64 (-low),.int .i64 up]) ?_ rfl ⟨rfl,gW⟩
  simp[results,Tryz.results68,go_sem,hq2_1,hq3_1,hc4_1_0,hc4_1_1]
theorem YQ (lo hi noise push most rate x prev dn up:Int) (w:World) (H:Hid (por (zs lo hi noise push most rate) (jC most prev)=0)) (h1:Unit->pdn lo hi noise push most rate x prev=dn) (h2:Unit->pup lo hi noise push most rate x prev=up):
  Calls Tryz.prog 68 #[.agg #[.int .i64 lo,.int .i64 hi,.int .i64 noise,.int .i64 push,.int .i64 most,.int .i64 rate],.int .i64 x,.int .i64 prev] w fun e w'=>
   e= .returned (.agg #[.int .i64 dn,.int .i64 up])/\Below w.heap.size w w':=by
 obtain⟨g,d1,d2,p1,p2,p3⟩:=zmR H.out
 obtain⟨a1,a2,a3,a4,a5,a6,a7,a8,a9,a10,a11,a12⟩:=id g
 have hb:=gH (lo:=lo) (hi:=hi) (noise:=noise) (push:=push) (x:=x) a11 a9 d1 d2
 have hl1: -most<=Zd most rate prev:=by unfold Zd;omega
 have hl2:Ze most rate prev<=most:=by unfold Ze;omega
 have hc:=Xa x (-2000000) 2000000 (by omega)
 have hc2:=Xb x (-2000000) 2000000 (by omega)
 have e1:=h1 ()
 have e2:=h2 ()
 have:=YP lo hi noise push most rate x prev (Zd most rate prev) (Ze most rate prev) _ up (-dn) w g p1 d1 d2 (zaO _ _ _) (zaP _ _ _) (by omega) (ZQ a9 a11 d1 d2) (by omega) (fun _=>rfl) hc hc2 (fun _=>e2)
  (fun _=>by rw[<-e1];unfold pdn;omega) (by omega) (by omega) (by omega) (by omega)
 rwa[Int.neg_neg]at this
end Go.Proofs.YtoakpnoajmngmaaGreatDoor
namespace Go.Proofs.YtoakpnoajmngmaaGreatDoor
open Go.RowKit
structure BankAt (w0 w:World) (B:Nat) (bb:Nat->Int) (oo:Nat->Bool) (last:Int):Prop where
 grown:w0.grownBy w (some B)
 bad:∀j,j<3->w.cell? ⟨B,j,none⟩=some (.int .i64 (bb j))
 out:∀j,j<3->w.cell? ⟨B,3+j,none⟩=some (.bool (oo j))
 last:w.cell? ⟨B,6,none⟩=some (.int .i64 last)
 froz:∀o,w.frozen? ⟨B,o,none⟩=false
 size:B<w.heap.size
theorem BankAt.congr {w0 w:World} {B:Nat} {bb bb':Nat->Int} {oo oo':Nat->Bool} {last:Int} (h:BankAt w0 w B bb oo last) (h1:∀j,j<3->bb j=bb' j) (h2:∀j,j<3->oo j=oo' j):BankAt w0 w B bb' oo' last:=
 ⟨h.grown,fun j hj=>by rw[<-h1 j hj];exact h.bad j hj,fun j hj=>by rw[<-h2 j hj];exact h.out j hj,h.last,h.froz,h.size⟩
theorem BankAt.alloc {w0 w:World} {B:Nat} {bb:Nat->Int} {oo:Nat->Bool} {last:Int} (h:BankAt w0 w B bb oo last) (o:Obj):BankAt w0 (w.alloc o) B bb oo last:=
 ⟨wU h.grown o,fun j hj=>zn (h.bad j hj),fun j hj=>zn (h.out j hj),zn h.last,fun i=>kA h.size (h.froz i),by simp;have:=h.size;omega⟩
theorem BankAt.drew {w0 w:World} {B:Nat} {bb:Nat->Int} {oo:Nat->Bool} {last:Int} (h:BankAt w0 w B bb oo last):BankAt w0 w.drew B bb oo last:=⟨Zq h.grown,h.bad,h.out,h.last,h.froz,h.size⟩
theorem BankAt.drewN {w0 w:World} {B:Nat} {bb:Nat->Int} {oo:Nat->Bool} {last:Int} (h:BankAt w0 w B bb oo last) (n:Nat):BankAt w0 (w.drewN n) B bb oo last:=⟨Y5 h.grown n,h.bad,h.out,h.last,h.froz,h.size⟩
theorem BankAt.below {w0 w w':World} {B:Nat} {bb:Nat->Int} {oo:Nat->Bool} {last:Int} (h:BankAt w0 w B bb oo last) (hb:Below w.heap.size w w'):BankAt w0 w' B bb oo last:=
 ⟨wV h.grown hb,fun j hj=>za hb h.size (h.bad j hj),fun j hj=>za hb h.size (h.out j hj),za hb h.size h.last,fun i=>zZ hb h.size (h.froz i),Nat.lt_of_lt_of_le h.size hb.size⟩
theorem BankAt.setBad {w0 w:World} {B:Nat} {bb bb':Nat->Int} {oo:Nat->Bool} {last:Int} (h:BankAt w0 w B bb oo last) (k:Nat) (hk:k<3) (h1:∀j,j≠k->bb' j=bb j):BankAt w0 (w.setCell ⟨B,k,none⟩ (.int .i64 (bb' k))) B bb' oo last:=by
 refine⟨yr h.grown rfl _,fun j hj=>?_,fun j hj=>q9 (h.out j hj) (by first|(simp;done)|(simp;omega)),q9 h.last (by first|(simp;done)|(simp;omega)),fun i=>jW (h.froz i),by simpa [World.setCell]using h.size⟩
 by_cases e:j=k
 ·rw[e];exact xy (h.bad k hk)
 ·rw[h1 j e];exact q9 (h.bad j hj) (by first|(simp;done)|(simp;omega))
theorem BankAt.setOut {w0 w:World} {B:Nat} {bb:Nat->Int} {oo oo':Nat->Bool} {last:Int} (h:BankAt w0 w B bb oo last) (k:Nat) (hk:k<3) (h1:∀j,j≠k->oo' j=oo j):BankAt w0 (w.setCell ⟨B,3+k,none⟩ (.bool (oo' k))) B bb oo' last:=by
 refine⟨yr h.grown rfl _,fun j hj=>q9 (h.bad j hj) (by first|(simp;done)|(simp;omega)),fun j hj=>?_,q9 h.last (by first|(simp;done)|(simp;omega)),fun i=>jW (h.froz i),by simpa [World.setCell]using h.size⟩
 by_cases e:j=k
 ·rw[e];exact xy (h.out k hk)
 ·rw[h1 j e];exact q9 (h.out j hj) (by first|(simp;done)|(simp;omega))
theorem zeg (t:Bool) (x v limit b:Int):ziz t true x v limit b=b:=rfl
theorem zeh (t:Bool) (x v limit confirm b:Int):ziS t true x v limit confirm b=true:=rfl
theorem GL {x v limit:Int} (h1:x-v<=limit) (h2:v-x<=limit):wH true x v limit=true:=Vb (by omega) (by omega)
theorem Ku {t:Bool} {x v limit:Int} (h:t=false\/limit<x-v\/limit<v-x):wH t x v limit=false:=by
 unfold wH
 rcases h with h|h
 ·rw[h];rfl
 ·cases t
  ·rfl
  ·simp;omega
theorem BankAt.same {w0 w:World} {B:Nat} {t o:Nat->Bool} {x b:Nat->Int} {v limit confirm last:Int} {k:Nat} (h:BankAt w0 w B (jI t o x v limit b k) (j6 t o x v limit confirm b k) last) (ho:o k=true):
  BankAt w0 w B (jI t o x v limit b (k+1)) (j6 t o x v limit confirm b (k+1)) last:=by
 refine h.congr (fun j _=>?_) (fun j _=>?_)
 ·by_cases e:j=k
  ·rw[e,ZR,wJ,ho,zeg]
  ·rw[ZS e]
 ·by_cases e:j=k
  ·rw[e,v7,wK,ho,zeh]
  ·rw[ZT e]
theorem BankAt.near {w0 w:World} {B:Nat} {t o:Nat->Bool} {x b:Nat->Int} {v limit confirm last:Int} {k:Nat} (h:BankAt w0 w B (jI t o x v limit b k) (j6 t o x v limit confirm b k) last) (hk:k<3) (ho:o k=false) (hn:wH (t k) (x k) v limit=true):
  BankAt w0 (w.setCell ⟨B,k,none⟩ (.int .i64 0)) B (jI t o x v limit b (k+1)) (j6 t o x v limit confirm b (k+1)) last:=by
 have e:jI t o x v limit b (k+1) k=0:=by rw[wJ,ho];unfold ziz;rw[hn];rfl
 have h1:=h.setBad (bb':=jI t o x v limit b (k+1)) k hk (fun j hj=>ZS hj)
 rw[e]at h1
 refine h1.congr (fun _ _=>rfl) (fun j _=>?_)
 by_cases e2:j=k
 ·rw[e2,v7,wK,ho];unfold ziS;rw[hn];rfl
 ·rw[ZT e2]
theorem BankAt.far {w0 w:World} {B:Nat} {t o:Nat->Bool} {x b:Nat->Int} {v limit confirm last:Int} {k:Nat} (h:BankAt w0 w B (jI t o x v limit b k) (j6 t o x v limit confirm b k) last) (hk:k<3) (ho:o k=false) (hn:wH (t k) (x k) v limit=false) (p:Int) (hp:p=min (b k+1) 10):
  BankAt w0 ((w.setCell ⟨B,k,none⟩ (.int .i64 p)).setCell ⟨B,3+k,none⟩ (.bool (decide (confirm<=p)))) B (jI t o x v limit b (k+1)) (j6 t o x v limit confirm b (k+1)) last:=by
 have e:jI t o x v limit b (k+1) k=p:=by rw[wJ,ho];unfold ziz;rw[hn,hp];rfl
 have e2:j6 t o x v limit confirm b (k+1) k=decide (confirm<=p):=by rw[wK,ho];unfold ziS;rw[hn,hp];rfl
 have h1:=h.setBad (bb':=jI t o x v limit b (k+1)) k hk (fun j hj=>ZS hj)
 rw[e]at h1
 have h2:=h1.setOut (oo':=j6 t o x v limit confirm b (k+1)) k hk (fun j hj=>ZT hj)
 rwa[e2]at h2
def qK (e0:Int) (t:Nat->Bool) (x:Nat->Int):Nat->Int
 |0=>e0
 |k+1=>por (qK e0 t x k) (wI (t k) (x k))
theorem ZE {e0:Int} {t:Nat->Bool} {x:Nat->Int} {k:Nat} (h:qK e0 t x k≠0):qK e0 t x (k+1)=qK e0 t x k:=mL h
theorem Kv {e0:Int} {t:Nat->Bool} {x:Nat->Int} {k:Nat} (h:qK e0 t x k=0):qK e0 t x (k+1)=wI (t k) (x k):=by
 show por _ _=_;rw[h,vV]
theorem zaQ (x:Int):wI false x=0:=by unfold wI;simp
theorem GM {x:Int} (h1: -1000000<=x) (h2:x<=1000000):wI true x=0:=by unfold wI;rw[if_neg (fun h=>h.2 ⟨h1,h2⟩)]
theorem Kw {x:Int} (h:x< -1000000\/1000000<x):wI true x=1:=by unfold wI;rw[if_pos ⟨rfl,by omega⟩]
set_option maxHeartbeats 1000000 in
theorem zaR (b:Nat->Int) (o:Nat->Bool) (last limit confirm:Int) (t:Nat->Bool) (x:Nat->Int) (w:World) (q:Int) (hq:Unit->qK (por (qr limit confirm) (jy (b 0) (b 1) (b 2) last)) t x 3=q):
  Calls Tryz.prog 109 #[.agg #[.int .i64 (b 0),.int .i64 (b 1),.int .i64 (b 2),.bool (o 0),.bool (o 1),.bool (o 2),.int .i64 last],.agg #[.int .i64 limit,.int .i64 confirm],.agg #[.bool (t 0),.int .i64 (x 0),.bool (t 1),.int .i64 (x 1),.bool (t 2),.int .i64 (x 2)]] w fun e w'=>
   e= .returned (qp q)/\Below w.heap.size w w':=by
 obtain⟨e0,he0⟩:∃e0,e0=por (qr limit confirm) (jy (b 0) (b 1) (b 2) last):=⟨_,rfl⟩
 rw[<-he0]at hq
 have HE0:=Lib.hid he0
 clear he0
 by_cases hr:qr limit confirm=0
 ·have hz:(qr limit confirm==0)=true:=by simpa using hr
  have he:Hid (jy (b 0) (b 1) (b 2) last=e0):=by unfold Hid;rw[HE0.out,hr,vV]
  clear HE0 hr
  go_enter Tryz.func109,Tryz.ntmps109
  go_wp2_with (first|(go_at_call 90;((with_reducible refine(kW _ _ _).mono ?_);rintro e w' ⟨rfl,rfl⟩))|(go_at_call 46;((with_reducible refine(Kt _ _ _ _).mono ?_);rintro e w1 ⟨rfl,hb1⟩;have hz1:=hb1.size;(repeat(first|simp only[World.size_alloc]at hz1|simp only[World.size_drew]at hz1|simp only[World.size_setCell]at hz1));have hB1:Below w.heap.size w w1:=gW);(have hq1_0:=fun o:Nat=>hb1.cell (p:=⟨w.heap.size,o,none⟩) gO);(have hf1_0:=fun o:Nat=>hb1.frozen (p:=⟨w.heap.size,o,none⟩) gO);(have hy1_0:w.heap.size<w1.heap.size:=by omega);(have hq1_1:=fun o:Nat=>hb1.cell (p:=⟨w.heap.size+1,o,none⟩) gO);(have hf1_1:=fun o:Nat=>hb1.frozen (p:=⟨w.heap.size+1,o,none⟩) gO);(have hy1_1:w.heap.size+1<w1.heap.size:=by omega);(have hq1_2:=fun o:Nat=>hb1.cell (p:=⟨w.heap.size+1+1,o,none⟩) gO);(have hf1_2:=fun o:Nat=>hb1.frozen (p:=⟨w.heap.size+1+1,o,none⟩) gO);(have hy1_2:w.heap.size+1+1<w1.heap.size:=by omega);clear hb1))
  refine zT (fun ω=>Below w.heap.size w ω/\w.heap.size+1+1<ω.heap.size/\(∀o,ω.frozen? ⟨w.heap.size+1+1,o,none⟩=false)/\ω.cell? ⟨w.heap.size+1+1,0,none⟩=some (.bool ((t 0)))/\ω.cell? ⟨w.heap.size+1+1,1,none⟩=some (.int .i64 ((x 0)))/\ω.cell? ⟨w.heap.size+1+1,2,none⟩=some (.bool ((t 1)))/\ω.cell? ⟨w.heap.size+1+1,3,none⟩=some (.int .i64 ((x 1)))/\ω.cell? ⟨w.heap.size+1+1,4,none⟩=some (.bool ((t 2)))/\ω.cell? ⟨w.heap.size+1+1,5,none⟩=some (.int .i64 ((x 2)))) ⟨gW,gS,gF,gC,gC,gC,gC,gC,gC⟩ ?_
  rintro w2 ⟨hB2,hy2_2,hf2_2,hc2_2_0,hc2_2_1,hc2_2_2,hc2_2_3,hc2_2_4,hc2_2_5⟩
  rw[he.out]
  go_loopw [7,17] (fun e i wr=>∃k:Nat,k<=3/\i= .int .i64 k/\e=qp (qK e0 t x k)/\Below w.heap.size w wr) (fun _ i _=>3-(intOf i).toNat)
  case atStart=>exact⟨0,by omega,rfl,rfl,hB2⟩
  case round=>
   obtain⟨k,hk,rfl,rfl,hbw⟩:=hrel
   have hsz:=hbw.size
   by_cases hlt:k<3
   ·have ix:=Q4 t x k hlt
    by_cases h0:qK e0 t x k=0
    ·have hz0:(qK e0 t x k==0)=true:=by simpa using h0
     have hn:=Kv h0
     have H0:=Lib.hid h0
     clear h0
     by_cases ht:t k=true
     ·rw[ht]at ix hn
      clear ht
      by_cases hx: -1000000<=x k/\x k<=1000000
      ·obtain⟨x1,x2⟩:=hx
       rw[GM x1 x2]at hn
       have HN:=Lib.hid hn
       clear hn
       go_wp2_with (first|(go_at_call 91;((with_reducible refine(yF _ _ (by omega) (by omega)).mono ?_);rintro e w' ⟨rfl,rfl⟩)))
       go_roundw
       case rel=>exact⟨k+1,by omega,by go_num,by rw[HN.out,H0.out],gW⟩
       case measure=>simp[intOf];omega
      ·have hx2:=Lib.hid (show x k< -1000000\/1000000<x k by omega)
       rw[Kw hx2.out]at hn
       have HN:=Lib.hid hn
       clear hn hx
       go_wp2_with (first|(go_at_call 91;((with_reducible refine(yG _ _ hx2.out).mono ?_);rintro e w' ⟨rfl,rfl⟩)))
       go_roundw
       case rel=>exact⟨k+1,by omega,by go_num,by rw[HN.out];rfl,gW⟩
       case measure=>simp[intOf];omega
     ·have ht':t k=false:=by simpa using ht
      rw[ht']at ix hn
      rw[zaQ]at hn
      have HN:=Lib.hid hn
      clear ht ht' hn
      go_wp2_with fail
      go_roundw
      case rel=>exact⟨k+1,by omega,by go_num,by rw[HN.out,H0.out],gW⟩
      case measure=>simp[intOf];omega
    ·have hz0:(qK e0 t x k==0)=false:=by simpa using h0
     have HN:=Lib.hid (ZE h0)
     clear h0
     go_wp2_with fail
     go_roundw
     case rel=>exact⟨k+1,by omega,by go_num,by rw[HN.out],gW⟩
     case measure=>simp[intOf];omega
   ·obtain rfl:k=3:=by omega
    have HQ:Hid (qK e0 t x 3=q):=hq ()
    clear hq
    go_wp2_with fail
    go_ret
    exact⟨by rw[<-HQ.out];rfl,hbw⟩
 ·have hz:(qr limit confirm==0)=false:=by simpa using hr
  have he:Hid (qr limit confirm=e0):=by unfold Hid;rw[HE0.out,mL hr]
  clear HE0 hr
  go_enter Tryz.func109,Tryz.ntmps109
  go_wp2_with (first|(go_at_call 90;((with_reducible refine(kW _ _ _).mono ?_);rintro e w' ⟨rfl,rfl⟩)))
  refine zT (fun ω=>Below w.heap.size w ω/\w.heap.size+1+1<ω.heap.size/\(∀o,ω.frozen? ⟨w.heap.size+1+1,o,none⟩=false)/\ω.cell? ⟨w.heap.size+1+1,0,none⟩=some (.bool ((t 0)))/\ω.cell? ⟨w.heap.size+1+1,1,none⟩=some (.int .i64 ((x 0)))/\ω.cell? ⟨w.heap.size+1+1,2,none⟩=some (.bool ((t 1)))/\ω.cell? ⟨w.heap.size+1+1,3,none⟩=some (.int .i64 ((x 1)))/\ω.cell? ⟨w.heap.size+1+1,4,none⟩=some (.bool ((t 2)))/\ω.cell? ⟨w.heap.size+1+1,5,none⟩=some (.int .i64 ((x 2)))) ⟨gW,gS,gF,gC,gC,gC,gC,gC,gC⟩ ?_
  rintro w2 ⟨hB2,hy2_2,hf2_2,hc2_2_0,hc2_2_1,hc2_2_2,hc2_2_3,hc2_2_4,hc2_2_5⟩
  rw[he.out]
  go_loopw [7,17] (fun e i wr=>∃k:Nat,k<=3/\i= .int .i64 k/\e=qp (qK e0 t x k)/\Below w.heap.size w wr) (fun _ i _=>3-(intOf i).toNat)
  case atStart=>exact⟨0,by omega,rfl,rfl,hB2⟩
  case round=>
   obtain⟨k,hk,rfl,rfl,hbw⟩:=hrel
   have hsz:=hbw.size
   by_cases hlt:k<3
   ·have ix:=Q4 t x k hlt
    by_cases h0:qK e0 t x k=0
    ·have hz0:(qK e0 t x k==0)=true:=by simpa using h0
     have hn:=Kv h0
     have H0:=Lib.hid h0
     clear h0
     by_cases ht:t k=true
     ·rw[ht]at ix hn
      clear ht
      by_cases hx: -1000000<=x k/\x k<=1000000
      ·obtain⟨x1,x2⟩:=hx
       rw[GM x1 x2]at hn
       have HN:=Lib.hid hn
       clear hn
       go_wp2_with (first|(go_at_call 91;((with_reducible refine(yF _ _ (by omega) (by omega)).mono ?_);rintro e w' ⟨rfl,rfl⟩)))
       go_roundw
       case rel=>exact⟨k+1,by omega,by go_num,by rw[HN.out,H0.out],gW⟩
       case measure=>simp[intOf];omega
      ·have hx2:=Lib.hid (show x k< -1000000\/1000000<x k by omega)
       rw[Kw hx2.out]at hn
       have HN:=Lib.hid hn
       clear hn hx
       go_wp2_with (first|(go_at_call 91;((with_reducible refine(yG _ _ hx2.out).mono ?_);rintro e w' ⟨rfl,rfl⟩)))
       go_roundw
       case rel=>exact⟨k+1,by omega,by go_num,by rw[HN.out];rfl,gW⟩
       case measure=>simp[intOf];omega
     ·have ht':t k=false:=by simpa using ht
      rw[ht']at ix hn
      rw[zaQ]at hn
      have HN:=Lib.hid hn
      clear ht ht' hn
      go_wp2_with fail
      go_roundw
      case rel=>exact⟨k+1,by omega,by go_num,by rw[HN.out,H0.out],gW⟩
      case measure=>simp[intOf];omega
    ·have hz0:(qK e0 t x k==0)=false:=by simpa using h0
     have HN:=Lib.hid (ZE h0)
     clear h0
     go_wp2_with fail
     go_roundw
     case rel=>exact⟨k+1,by omega,by go_num,by rw[HN.out],gW⟩
     case measure=>simp[intOf];omega
   ·obtain rfl:k=3:=by omega
    have HQ:Hid (qK e0 t x 3=q):=hq ()
    clear hq
    go_wp2_with fail
    go_ret
    exact⟨by rw[<-HQ.out];rfl,hbw⟩
end Go.Proofs.YtoakpnoajmngmaaGreatDoor
namespace Go.Proofs.YtoakpnoajmngmaaGreatDoor
open Go.RowKit
theorem VT (A:Option Addr) (n c:Nat) (f:Nat->Int) (last:Int) (w:World) (hn:n<=3) (hf:Hid (∀k,k<n-> -1000000<=f k/\f k<=1000000)) (h:Hid (yK w A n f)) (r:Int) (hr:Unit->K1 f n last=r):
  Calls Tryz.prog 110 #[.slice A n c,.int .i64 last] w fun e w'=>e= .returned (.int .i64 r)/\Below w.heap.size w w':=by
 match n,hn,hf,h,hr with
 |0,_,hf,h,hr=>
  have e:Hid (last=r):=hr ()
  clear hr
  go_enter Tryz.func110,Tryz.ntmps110
  go_wp2_with fail
  go_ret
  exact⟨zD e.out,gW⟩
 |1,_,hf,h,hr=>
  have e:Hid (f 0=r):=hr ()
  obtain⟨b,off,rfl,hb,c0⟩:=h.out 0 (by omega)
  have c0':w.cell? ⟨b,off,none⟩=some (.int .i64 (f 0)):=c0
  clear c0
  clear hr
  go_enter Tryz.func110,Tryz.ntmps110
  go_wp2_with fail
  go_ret
  exact⟨zD e.out,gW⟩
 |2,_,hf,h,hr=>
  have e:Hid ((f 0+f 1)/2=r):=hr ()
  obtain⟨b,off,rfl,hb,c0⟩:=h.out 0 (by omega)
  have c0':w.cell? ⟨b,off,none⟩=some (.int .i64 (f 0)):=c0
  clear c0
  obtain⟨b',off',he,_,c1⟩:=h.out 1 (by omega)
  simp at he
  obtain⟨rfl,rfl⟩:=he
  have f0:=hf.out 0 (by omega)
  have f1:=hf.out 1 (by omega)
  obtain⟨f01,f02⟩:=f0
  obtain⟨f11,f12⟩:=f1
  have e1:IntKind.i64.wrap (f 0+f 1)=f 0+f 1:=IntWalk.i64_in _ (by omega)
  clear hr
  go_enter Tryz.func110,Tryz.ntmps110
  go_wp2_with fail
  go_quiet (fail)
  go_wp2_with fail
  go_ret
  exact⟨zD e.out,gW⟩
 |3,_,hf,h,hr=>
  have e:Hid (zeM (f 0) (f 1) (f 2)=r):=hr ()
  obtain⟨b,off,rfl,hb,c0⟩:=h.out 0 (by omega)
  have c0':w.cell? ⟨b,off,none⟩=some (.int .i64 (f 0)):=c0
  clear c0
  obtain⟨b',off',he,_,c1⟩:=h.out 1 (by omega)
  simp at he
  obtain⟨rfl,rfl⟩:=he
  obtain⟨b',off',he,_,c2⟩:=h.out 2 (by omega)
  simp at he
  obtain⟨rfl,rfl⟩:=he
  obtain⟨p1,hp1⟩:∃p,p=min (f 0) (f 1):=⟨_,rfl⟩
  obtain⟨p2,hp2⟩:∃p,p=max (f 0) (f 1):=⟨_,rfl⟩
  obtain⟨p3,hp3⟩:∃p,p=min p2 (f 2):=⟨_,rfl⟩
  obtain⟨p4,hp4⟩:∃p,p=max p1 p3:=⟨_,rfl⟩
  have m1:=kD (f 0) (f 1) p1 hp1
  have m2:=vw (f 0) (f 1) p2 hp2
  have m3:=kD p2 (f 2) p3 hp3
  have m4:=vw p1 p3 p4 hp4
  have hf4:Hid (p4=r):=by
   unfold Hid
   rw[<-e.out,hp4,hp3,hp2,hp1]
   rfl
  clear hr hp1 hp2 hp3 hp4
  go_enter Tryz.func110,Tryz.ntmps110
  go_wp2_with fail
  go_quiet (fail)
  go_wp2_with fail
  go_ret
  exact⟨zD hf4.out,gW⟩
end Go.Proofs.YtoakpnoajmngmaaGreatDoor
