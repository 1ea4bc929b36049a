import Derived.Test.YtoakpnoajmngmaaGreatDoorErr
import Derived.Deep.RegionHeld3
import Derived.Laws.IdiomStrings
import Derived.Laws.AppendOwn
import Derived.Test.YtoakpnoajmngmaaGreatDoorFix
import Derived.OpenShut
set_option linter.unusedVariables false
set_option linter.unusedSimpArgs false
namespace Go.Proofs.YtoakpnoajmngmaaGreatDoor
open Go.RowKit
theorem zn {w:World} {a:Addr} {v:Value} {o:Obj} (h:w.cell? a=some v):(w.alloc o).cell? a=some v:=by
 rw[World.cell?_alloc_some w a o (by simp[h]),h]
theorem zt {w:World} {a:Addr} {v:Value} (h:w.cell? a=some v):w.drew.cell? a=some v:=h
theorem zw {w:World} {a:Addr} {v:Value} {n:Nat} (h:w.cell? a=some v):(w.drewN n).cell? a=some v:=h
theorem zS {w:World} {a p:Addr} {v u:Value} (h:w.cell? a=some v) (hne:p.block≠a.block):(w.setCell p u).cell? a=some v:=by
 rw[World.cell?_setCell_other w p a u (fun e=>by subst e;exact hne rfl),h]
def jV:List Int->Int
 |[]=>0
 |x::l=>if x=0 then jV l else x
theorem Y2 (l:List Int) (k:Nat) (h:k<l.length):jV (l.drop k)=if l[k]?.getD 0=0 then jV (l.drop (k+1))else l[k]?.getD 0:=by
 rw[List.drop_eq_getElem_cons h]
 simp[jV,h]
def por (a b:Int):Int:=if a=0 then b else a
theorem vV (b:Int):por 0 b=b:=rfl
theorem mL {a b:Int} (h:a≠0):por a b=a:=if_neg h
theorem GV (b:Nat) (c:Nat) (l:List Int) (n:Nat) (w:World) (hn:l.length=n) (hm:n<=1000) (hc:∀k,k<n->w.cell? ⟨b,k,none⟩=some (.int .i64 (l[k]?.getD 0))):
  Calls Tryz.prog 7 #[.slice (some ⟨b,0,none⟩) n c] w fun e w'=>e= .returned (.int .i64 (jV l))/\w=w':=by
 have HC:=Lib.hid hc
 have HN:=Lib.hid hn
 clear hc hn
 go_enter Tryz.func7,Tryz.ntmps7
 go_wp2
 go_loop [3] (fun i=>∃k:Nat,k<=n/\i= .int .i64 k/\Hid (jV l=jV (l.drop k))) (fun i=>n-(intOf i).toNat)
 case atStart=>exact⟨0,Nat.zero_le _,rfl,rfl⟩
 case round=>
  obtain⟨k,hk,rfl,hp⟩:=hrel
  by_cases hlt:k<n
  ·have hck:=HC.out k hlt
   have hd:=Y2 l k (by rw[HN.out];exact hlt)
   by_cases h0:l[k]?.getD 0=0
   ·rw[if_pos h0]at hd
    have hp2:Hid (jV l=jV (l.drop (k+1))):=hp.out.trans hd
    clear hd hp
    rw[h0]at hck
    clear h0
    go_wp2
    go_round
    case rel=>exact⟨k+1,by omega,by go_num,hp2⟩
    case measure=>simp[intOf];omega
   ·rw[if_neg h0]at hd
    have hp2:Hid (jV l=l[k]?.getD 0):=hp.out.trans hd
    clear hd hp
    generalize l[k]?.getD 0=x at*
    have h0':(x !=0)=true:=by simpa using h0
    go_wp2
    go_ret
    exact⟨zD hp2.out.symm,rfl⟩
  ·have hkn:k=n:=by omega
   have hp2:Hid (jV l=0):=by
    have:=hp.out
    rw[List.drop_eq_nil_of_le (by rw[HN.out];omega)]at this
    exact this
   clear hp
   go_wp2
   go_ret
   exact⟨zD hp2.out.symm,rfl⟩
end Go.Proofs.YtoakpnoajmngmaaGreatDoor
namespace Go.Proofs.YtoakpnoajmngmaaGreatDoor
open Go.RowKit
theorem zfN (w:World) (x y:Int) (t:TypeId) (g:Nat × Nat) (b:Nat) (hb:b=w.heap.size):∀k,k<2->(w.alloc (.cells #[.int .i64 x,.int .i64 y] t g)).cell? ⟨b,k,none⟩=some (.int .i64 ([x,y][k]?.getD 0)):=by
 subst hb
 intro k hk
 have hh:(w.alloc (.cells #[.int .i64 x,.int .i64 y] t g)).heap[w.heap.size]? =some (.cells #[.int .i64 x,.int .i64 y] t g):=heap_alloc_new w _
 rw[cell_of_row _ _ _ _ t g hh]
 match k,hk with
 |0,_=>rfl
 |1,_=>rfl
end Go.Proofs.YtoakpnoajmngmaaGreatDoor
namespace Go.Proofs.YtoakpnoajmngmaaGreatDoor
open Go.RowKit
theorem kz {Q:Exit->Act->World->Prop} {e:Exit} {a:Act} {W:World} (S:World->Prop) (hS:S W) (h:∀x,S x->Q e a x):Q e a W:=h W hS
theorem zT {P:Program} {c:Code} {Q:Exit->Act->World->Prop} {a:Act} {W:World} (S:World->Prop) (hS:S W) (h:∀x,S x->c.wp P Q a x):c.wp P Q a W:=h W hS
theorem j4 {w:World} {c:Array Value} {t:TypeId} {g:Nat × Nat} {b i:Nat} {v:Value} (hb:b=w.heap.size) (hc:c[i]? =some v):(w.alloc (.cells c t g)).cell? ⟨b,i,none⟩=some v:=by
 subst hb
 exact(World.cell?_alloc_mark w c t g i).trans hc
theorem yZ {w:World} {c:Array Value} {t:TypeId} {b i:Nat} (hb:b=w.heap.size):(w.alloc (.cells c t)).frozen? ⟨b,i,none⟩=false:=World.frozen?_alloc_at _ _ _ _ hb
theorem kA {w:World} {a:Addr} {o:Obj} (hlt:a.block<w.heap.size) (h:w.frozen? a=false):(w.alloc o).frozen? a=false:=by
 rw[World.frozen?_alloc_old _ _ _ (Nat.ne_of_lt hlt)];exact h
theorem vW {w:World} {a:Addr} (h:w.frozen? a=false):w.drew.frozen? a=false:=h
theorem vp {w:World} {a:Addr} {n:Nat} (h:w.frozen? a=false):(w.drewN n).frozen? a=false:=h
theorem jW {w:World} {a p:Addr} {u:Value} (h:w.frozen? a=false):(w.setCell p u).frozen? a=false:=by
 rw[World.frozen?_setCell];exact h
theorem jN {w:World} {a:Addr} {v u:Value} (h:∃x,w.cell? a=some x) (e:u=v):(w.setCell a u).cell? a=some v:=by
 obtain⟨x,hx⟩:=h
 rw[World.cell?_setCell_same _ _ _ hx,e]
theorem xy {w:World} {a:Addr} {u v:Value} (h:w.cell? a=some v):(w.setCell a u).cell? a=some u:=World.cell?_setCell_same _ _ _ h
theorem q9 {w:World} {a p:Addr} {v u:Value} (h:w.cell? a=some v) (hne:p≠a):(w.setCell p u).cell? a=some v:=(World.cell?_setCell_other _ _ _ _ hne).trans h
def yH (w:World) (a:Addr):Prop:=∃x,w.cell? a=some x
theorem zmY {w:World} {a:Addr} {v:Value} (h:w.cell? a=some v):yH w a:=⟨v,h⟩
theorem zio {w:World} {a p:Addr} {u:Value} (h:yH w a):yH (w.setCell p u) a:=by
 obtain⟨x,hx⟩:=h
 by_cases e:p=a
 ·subst e;exact⟨_,World.cell?_setCell_same _ _ _ hx⟩
 ·exact⟨x,(World.cell?_setCell_other _ _ _ _ e).trans hx⟩
theorem za9 {w:World} {a:Addr} {o:Obj} (h:yH w a):yH (w.alloc o) a:=by
 obtain⟨x,hx⟩:=h
 exact⟨x,zn hx⟩
theorem zey {w:World} {a:Addr} (h:yH w a):yH w.drew a:=h
theorem Jc {w:World} {a:Addr} {u:Value} (h:yH w a):(w.setCell a u).cell? a=some u:=by
 obtain⟨x,hx⟩:=h
 exact World.cell?_setCell_same _ _ _ hx
theorem KE {w:World} {b c i j:Nat} {v u:Value} (hne:¬b=c) (h:w.cell? ⟨c,j,none⟩=some v):(w.setCell ⟨b,i,none⟩ u).cell? ⟨c,j,none⟩=some v:=(World.cell?_setCell_other _ _ _ _ (fun e=>hne (by simpa using congrArg Addr.block e))).trans h
theorem KF {w:World} {b i j:Nat} {v u:Value} (hne:¬i=j) (h:w.cell? ⟨b,j,none⟩=some v):(w.setCell ⟨b,i,none⟩ u).cell? ⟨b,j,none⟩=some v:=(World.cell?_setCell_other _ _ _ _ (fun e=>hne (by simpa using congrArg Addr.off e))).trans h
theorem za {w w1:World} {a:Addr} {v:Value} {n:Nat} (hb:Below n w w1) (hlt:a.block<n) (h:w.cell? a=some v):w1.cell? a=some v:=by
 rw[hb.cell hlt];exact h
theorem zZ {w w1:World} {a:Addr} {n:Nat} (hb:Below n w w1) (hlt:a.block<n) (h:w.frozen? a=false):w1.frozen? a=false:=by
 rw[hb.frozen hlt];exact h
theorem gW {P:Prop} (h:P:=by(repeat'(first|(with_reducible exact Below.refl _ _)|(with_reducible assumption)|(with_reducible refine Below.alloc ?_ ?_ _)|(with_reducible refine Below.drew ?_)|(with_reducible refine below_drewN ?_ _)|(with_reducible refine Below.setCell ?_ ?_ _)|(with_reducible refine Below.trans ?_ (Below.mono (by assumption) ?_))|omega|(simp;omega)|(simp;done)))):P:=h
theorem gS {P:Prop} (h:P:=by(first|omega|((repeat(first|simp only[World.size_alloc]|simp only[World.size_drew]|simp only[World.size_setCell]));omega)|(simp;done)|(simp;omega))):P:=h
theorem gC {P:Prop} (h:P:=by(repeat'(first|(with_reducible assumption)|((with_reducible refine j4 ?_ ?_)<;>(first|rfl|(simp;done)))|(with_reducible refine zn ?_)|(with_reducible refine zt ?_)|(with_reducible refine zw ?_)|(with_reducible refine Jc ?_)|(with_reducible refine zio ?_)|(with_reducible refine za9 ?_)|(with_reducible refine zey ?_)|(with_reducible exact zmY (by with_reducible assumption))|((with_reducible refine KF ?_ ?_);(focus decide))|((with_reducible refine KE ?_ ?_);(focus(first|(with_reducible assumption)|(simp;done))))|(with_reducible refine q9 ?_ (by first|(simp;done)|(simp;omega)))|(with_reducible refine za (by assumption) (by first|omega|(simp;done)|(simp;omega)) ?_)|(go_simp;done)))):P:=h
theorem gF {P:Prop} (h:P:=by(intro o;repeat'(first|(with_reducible assumption)|((with_reducible refine yZ ?_);(first|rfl|(simp;done)))|((with_reducible refine kA ?_ ?_);(focus(first|(simp;done)|(simp;omega))))|(with_reducible refine vW ?_)|(with_reducible refine vp ?_)|(with_reducible refine jW ?_)|(with_reducible refine zZ (by assumption) (by first|omega|(simp;done)|(simp;omega)) ?_)|(go_simp;done)))):P:=h
theorem gO {P:Prop} (h:P:=by first|omega|(simp;done)|(simp;omega)):P:=h
@[go_sem high] theorem V3 (w:World) (o0 o1:Obj) (n i:Nat) (h:n<w.heap.size):((w.alloc o0).alloc o1).cell? ⟨n,i,none⟩=w.cell? ⟨n,i,none⟩:=
  (World.cell?_alloc_past (w:=(w.alloc o0)) o1 n i (by simp only[World.size_alloc];omega)).trans (World.cell?_alloc_past (w:=w) o0 n i h)
@[go_sem high] theorem KG (w:World) (o0 o1:Obj) (n i:Nat) (h:n<w.heap.size):((w.alloc o0).alloc o1).frozen? ⟨n,i,none⟩=w.frozen? ⟨n,i,none⟩:=
  (World.frozen?_alloc_past (w:=(w.alloc o0)) o1 n i (by simp only[World.size_alloc];omega)).trans (World.frozen?_alloc_past (w:=w) o0 n i h)
@[go_sem high] theorem V4 (w:World) (o0 o1 o2:Obj) (n i:Nat) (h:n<w.heap.size):(((w.alloc o0).alloc o1).alloc o2).cell? ⟨n,i,none⟩=w.cell? ⟨n,i,none⟩:=
  (World.cell?_alloc_past (w:=((w.alloc o0).alloc o1)) o2 n i (by simp only[World.size_alloc];omega)).trans (V3 w o0 o1 n i h)
@[go_sem high] theorem KH (w:World) (o0 o1 o2:Obj) (n i:Nat) (h:n<w.heap.size):(((w.alloc o0).alloc o1).alloc o2).frozen? ⟨n,i,none⟩=w.frozen? ⟨n,i,none⟩:=
  (World.frozen?_alloc_past (w:=((w.alloc o0).alloc o1)) o2 n i (by simp only[World.size_alloc];omega)).trans (KG w o0 o1 n i h)
@[go_sem high] theorem V5 (w:World) (o0 o1 o2 o3:Obj) (n i:Nat) (h:n<w.heap.size):((((w.alloc o0).alloc o1).alloc o2).alloc o3).cell? ⟨n,i,none⟩=w.cell? ⟨n,i,none⟩:=
  (World.cell?_alloc_past (w:=(((w.alloc o0).alloc o1).alloc o2)) o3 n i (by simp only[World.size_alloc];omega)).trans (V4 w o0 o1 o2 n i h)
@[go_sem high] theorem KI (w:World) (o0 o1 o2 o3:Obj) (n i:Nat) (h:n<w.heap.size):((((w.alloc o0).alloc o1).alloc o2).alloc o3).frozen? ⟨n,i,none⟩=w.frozen? ⟨n,i,none⟩:=
  (World.frozen?_alloc_past (w:=(((w.alloc o0).alloc o1).alloc o2)) o3 n i (by simp only[World.size_alloc];omega)).trans (KH w o0 o1 o2 n i h)
@[go_sem high] theorem V6 (w:World) (o0 o1 o2 o3 o4:Obj) (n i:Nat) (h:n<w.heap.size):(((((w.alloc o0).alloc o1).alloc o2).alloc o3).alloc o4).cell? ⟨n,i,none⟩=w.cell? ⟨n,i,none⟩:=
  (World.cell?_alloc_past (w:=((((w.alloc o0).alloc o1).alloc o2).alloc o3)) o4 n i (by simp only[World.size_alloc];omega)).trans (V5 w o0 o1 o2 o3 n i h)
@[go_sem high] theorem KJ (w:World) (o0 o1 o2 o3 o4:Obj) (n i:Nat) (h:n<w.heap.size):(((((w.alloc o0).alloc o1).alloc o2).alloc o3).alloc o4).frozen? ⟨n,i,none⟩=w.frozen? ⟨n,i,none⟩:=
  (World.frozen?_alloc_past (w:=((((w.alloc o0).alloc o1).alloc o2).alloc o3)) o4 n i (by simp only[World.size_alloc];omega)).trans (KI w o0 o1 o2 o3 n i h)
@[go_sem high] theorem V7 (w:World) (o0 o1 o2 o3 o4 o5:Obj) (n i:Nat) (h:n<w.heap.size):((((((w.alloc o0).alloc o1).alloc o2).alloc o3).alloc o4).alloc o5).cell? ⟨n,i,none⟩=w.cell? ⟨n,i,none⟩:=
  (World.cell?_alloc_past (w:=(((((w.alloc o0).alloc o1).alloc o2).alloc o3).alloc o4)) o5 n i (by simp only[World.size_alloc];omega)).trans (V6 w o0 o1 o2 o3 o4 n i h)
@[go_sem high] theorem KK (w:World) (o0 o1 o2 o3 o4 o5:Obj) (n i:Nat) (h:n<w.heap.size):((((((w.alloc o0).alloc o1).alloc o2).alloc o3).alloc o4).alloc o5).frozen? ⟨n,i,none⟩=w.frozen? ⟨n,i,none⟩:=
  (World.frozen?_alloc_past (w:=(((((w.alloc o0).alloc o1).alloc o2).alloc o3).alloc o4)) o5 n i (by simp only[World.size_alloc];omega)).trans (KJ w o0 o1 o2 o3 o4 n i h)
@[go_sem high] theorem V8 (w:World) (o0 o1 o2 o3 o4 o5 o6:Obj) (n i:Nat) (h:n<w.heap.size):(((((((w.alloc o0).alloc o1).alloc o2).alloc o3).alloc o4).alloc o5).alloc o6).cell? ⟨n,i,none⟩=w.cell? ⟨n,i,none⟩:=
  (World.cell?_alloc_past (w:=((((((w.alloc o0).alloc o1).alloc o2).alloc o3).alloc o4).alloc o5)) o6 n i (by simp only[World.size_alloc];omega)).trans (V7 w o0 o1 o2 o3 o4 o5 n i h)
@[go_sem high] theorem KL (w:World) (o0 o1 o2 o3 o4 o5 o6:Obj) (n i:Nat) (h:n<w.heap.size):(((((((w.alloc o0).alloc o1).alloc o2).alloc o3).alloc o4).alloc o5).alloc o6).frozen? ⟨n,i,none⟩=w.frozen? ⟨n,i,none⟩:=
  (World.frozen?_alloc_past (w:=((((((w.alloc o0).alloc o1).alloc o2).alloc o3).alloc o4).alloc o5)) o6 n i (by simp only[World.size_alloc];omega)).trans (KK w o0 o1 o2 o3 o4 o5 n i h)
@[go_sem high] theorem ziM (w:World) (o0 o1 o2 o3 o4 o5 o6 o7:Obj) (n i:Nat) (h:n<w.heap.size):((((((((w.alloc o0).alloc o1).alloc o2).alloc o3).alloc o4).alloc o5).alloc o6).alloc o7).cell? ⟨n,i,none⟩=w.cell? ⟨n,i,none⟩:=
  (World.cell?_alloc_past (w:=(((((((w.alloc o0).alloc o1).alloc o2).alloc o3).alloc o4).alloc o5).alloc o6)) o7 n i (by simp only[World.size_alloc];omega)).trans (V8 w o0 o1 o2 o3 o4 o5 o6 n i h)
@[go_sem high] theorem zfO (w:World) (o0 o1 o2 o3 o4 o5 o6 o7:Obj) (n i:Nat) (h:n<w.heap.size):((((((((w.alloc o0).alloc o1).alloc o2).alloc o3).alloc o4).alloc o5).alloc o6).alloc o7).frozen? ⟨n,i,none⟩=w.frozen? ⟨n,i,none⟩:=
  (World.frozen?_alloc_past (w:=(((((((w.alloc o0).alloc o1).alloc o2).alloc o3).alloc o4).alloc o5).alloc o6)) o7 n i (by simp only[World.size_alloc];omega)).trans (KL w o0 o1 o2 o3 o4 o5 o6 n i h)
end Go.Proofs.YtoakpnoajmngmaaGreatDoor
namespace Go.Proofs.YtoakpnoajmngmaaGreatDoor
open Go.RowKit
theorem V9 (n d:Int) (hd:0<d):(n-n%d).tdiv d=n/d:=by
 have h:n-n%d=d*(n/d):=by have:=Int.emod_add_mul_ediv n d;omega
 rw[h,Int.mul_tdiv_cancel_left _ (by omega)]
theorem Y3 (n d:Int) (hd:0<d):(n-n%d)/d=n/d:=by
 have h:n-n%d=d*(n/d):=by have:=Int.emod_add_mul_ediv n d;omega
 rw[h,Int.mul_ediv_cancel_left _ (by omega)]
theorem zba (n d:Int) (B:Int) (hd:0<d) (h1: -B<=n) (h2:n<=B) (hB:0<=B): -B-1<=n/d/\n/d<=B:=by
 constructor
 ·have:(-B-1)<=n/d:=by
   rw[Int.le_ediv_iff_mul_le hd]
   have:(-B-1)*d<=(-B-1)*1:=Int.mul_le_mul_of_nonpos_left (by omega) (by omega)
   omega
  exact this
 ·apply Int.ediv_le_of_le_mul hd
  have:B*1<=B*d:=Int.mul_le_mul_of_nonneg_left (by omega) hB
  omega
theorem zbb (n d:Int) (w:World) (hd:0<d) (hd2:d<=9000000000000) (h1: -9000000000000000000<=n) (h2:n<=9000000000000000000):
  Calls Tryz.prog 98 #[.int .i64 n,.int .i64 d] w fun e w'=>e= .returned (.int .i64 (n/d))/\w=w':=by
 have m0:=Int.emod_nonneg n (b:=d) (by omega)
 have m1:=Int.emod_lt_of_pos n hd
 have hb:=zba n d 9000000000000000000 hd (by omega) (by omega) (by omega)
 obtain⟨b1,b2⟩:=hb
 have hE:=Lib.hid (V9 n d hd)
 have hE2:=Lib.hid (Y3 n d hd)
 go_enter Tryz.func98,Tryz.ntmps98
 go_wp2_with (go_at_call 18;((with_reducible refine(zfQ _ _ _ hd (by omega)).mono ?_);rintro e w' ⟨rfl,rfl⟩))
 go_ret
 exact⟨zD hE.out,rfl⟩
def Za (n d:Int):Int:=(2*n+d)/(2*d)
theorem zpw (n d:Int) (w:World) (hd:0<d) (hd2:d<=4000000000000) (h1: -4400000000000000000<=n) (h2:n<=4400000000000000000):
  Calls Tryz.prog 134 #[.int .i64 n,.int .i64 d] w fun e w'=>e= .returned (.int .i64 (Za n d))/\w=w':=by
 go_enter Tryz.func134,Tryz.ntmps134
 go_wp2_with (go_at_call 98;((with_reducible refine(zbb _ _ _ (by omega) (by omega) (by omega) (by omega)).mono ?_);rintro e w' ⟨rfl,rfl⟩))
 go_ret
 exact⟨rfl,rfl⟩
theorem zip {n d:Int} (hd:0<d) (h:n<0):(n.tmod d<0/\n.tdiv d-1=n/d)\/(¬n.tmod d<0/\n.tdiv d=n/d):=by
 have e1:=Int.emod_add_mul_ediv n d
 have e2:=Int.tmod_add_mul_tdiv n d
 have m0:=Int.emod_nonneg n (b:=d) (by omega)
 have m1:=Int.emod_lt_of_pos n hd
 rcases Xd n d hd h with⟨h3,h4,h5⟩|⟨h3,h4⟩
 ·left
  refine⟨h3,?_⟩
  have:d*(n/d)=d*(n.tdiv d-1):=by rw[Int.mul_sub];omega
  exact(Int.eq_of_mul_eq_mul_left (by omega) this).symm
 ·right
  refine⟨by omega,?_⟩
  have:d*(n/d)=d*(n.tdiv d):=by omega
  exact(Int.eq_of_mul_eq_mul_left (by omega) this).symm
theorem zbc (n d:Int) (w:World) (hd:0<d) (hd2:d<=9000000000000) (h1: -9000000000000000000<=n) (h2:n<=9000000000000000000):
  Calls Tryz.prog 171 #[.int .i64 n,.int .i64 d] w fun e w'=>e= .returned (.int .i64 (n/d))/\w=w':=by
 have hb:=zba n d 9000000000000000000 hd (by omega) (by omega) (by omega)
 obtain⟨b1,b2⟩:=hb
 by_cases hn:0<=n
 ·have m0:=Int.emod_nonneg n (b:=d) (by omega)
  go_enter Tryz.func171,Tryz.ntmps171
  go_wp2_with fail
  go_ret
  exact⟨rfl,rfl⟩
 ·rcases zip hd (by omega:n<0)with⟨h3,h4⟩|⟨h3,h4⟩
  ·have H4:=Lib.hid h4
   have b3: -9000000000000000001<=n.tdiv d:=by omega
   have b4:n.tdiv d<=9000000000000000001:=by omega
   clear h4
   go_enter Tryz.func171,Tryz.ntmps171
   go_wp2_with fail
   go_ret
   exact⟨zD H4.out,rfl⟩
  ·have H4:=Lib.hid h4
   clear h4
   go_enter Tryz.func171,Tryz.ntmps171
   go_wp2_with fail
   go_ret
   exact⟨zD H4.out,rfl⟩
theorem zbd (n d:Int) (w:World) (hd:0<d) (hd2:d<=4000000000000) (h1: -4400000000000000000<=n) (h2:n<=4400000000000000000):
  Calls Tryz.prog 170 #[.int .i64 n,.int .i64 d] w fun e w'=>e= .returned (.int .i64 (Za n d))/\w=w':=by
 go_enter Tryz.func170,Tryz.ntmps170
 go_wp2_with (go_at_call 171;((with_reducible refine(zbc _ _ _ (by omega) (by omega) (by omega) (by omega)).mono ?_);rintro e w' ⟨rfl,rfl⟩))
 go_ret
 exact⟨rfl,rfl⟩
end Go.Proofs.YtoakpnoajmngmaaGreatDoor
namespace Go.Proofs.YtoakpnoajmngmaaGreatDoor
open Go.RowKit
def jO (f:Nat->Int) (n:Nat):Prop:=∀k,k<n-> -1000000<=f k/\f k<=1000000
def z7 (f:Nat->Int):Nat->Int
 |0=>0
 |n+1=>por (z7 f n) (if -1000000<=f n/\f n<=1000000 then 0 else 1)
theorem kC {f:Nat->Int} {n:Nat} (h:jO f n):z7 f n=0:=by
 induction n with
 |zero=>rfl
 |succ n ih=>
  show por _ _=0
  rw[ih fun k hk=>h k (by omega),vV,if_pos (h n (by omega))]
theorem vq {f:Nat->Int} {n k:Nat} (hk:k<n) (h:¬(-1000000<=f k/\f k<=1000000)):z7 f n=1:=by
 induction n with
 |zero=>omega
 |succ n ih=>
  show por _ _=1
  by_cases e:k<n
  ·rw[ih e];rfl
  ·have:k=n:=by omega
   subst this
   rw[if_neg h]
   have key:∀m,z7 f m=0\/z7 f m=1:=by
    intro m
    induction m with
    |zero=>exact .inl rfl
    |succ m ih=>
     show por _ _=0\/por _ _=1
     rcases ih with ih|ih<;>rw[ih]
     ·rw[vV];split<;>omega
     ·exact .inr rfl
   rcases key k with h0|h0<;>rw[h0]<;>rfl
theorem vr {f:Nat->Int} {n:Nat}:z7 f n=0↔jO f n:=by
 refine⟨fun h k hk=>?_,kC⟩
 by_cases hc: -1000000<=f k/\f k<=1000000
 ·exact hc
 ·rw[vq hk hc]at h;omega
def js (f:Nat->Int) (n:Nat):Prop:=∀k,k+1<n->f k<f (k+1)
def kX (f:Nat->Int):Nat->Int
 |0=>0
 |1=>0
 |n+2=>por (kX f (n+1)) (if f n<f (n+1)then 0 else 3)
theorem Jd {f:Nat->Int} {n:Nat} (h:js f n):kX f n=0:=by
 match n,h with
 |0,_=>rfl
 |1,_=>rfl
 |n+2,h=>
  show por _ _=0
  rw[Jd fun k hk=>h k (by omega),vV,if_pos (h n (by omega))]
theorem yI (f:Nat->Int) (n:Nat):kX f n=0\/kX f n=3:=by
 match n with
 |0=>exact .inl rfl
 |1=>exact .inl rfl
 |n+2=>
  show por _ _=0\/por _ _=3
  rcases yI f (n+1)with ih|ih<;>rw[ih]
  ·rw[vV];split<;>omega
  ·exact .inr rfl
theorem mM {f:Nat->Int} {n k:Nat} (hk:k+1<n) (h:¬f k<f (k+1)):kX f n=3:=by
 match n,hk with
 |n+2,hk=>
  show por _ _=3
  by_cases e:k+1<n+1
  ·rw[mM e h];rfl
  ·have:k=n:=by omega
   subst this
   rw[if_neg h]
   rcases yI f (k+1)with h0|h0<;>rw[h0]<;>rfl
theorem zbe {f:Nat->Int} {n:Nat}:kX f n=0↔js f n:=by
 refine⟨fun h k hk=>?_,Jd⟩
 by_cases hc:f k<f (k+1)
 ·exact hc
 ·rw[mM hk hc]at h;omega
def zR (f:Nat->Int) (n:Nat):Int:=if n<2 then 3 else if 8<n then 2 else por (z7 f n) (kX f n)
def zC (f:Nat->Int) (n:Nat) (g:Nat->Int) (m:Nat):Int:=if n≠m then 3 else por (zR f n) (z7 g m)
theorem Je {f:Nat->Int} {n:Nat} (h:zR f n=0):2<=n/\n<=8/\jO f n/\js f n:=by
 unfold zR at h
 split at h
 ·omega
 ·split at h
  ·omega
  ·obtain⟨h1,h2⟩:z7 f n=0/\kX f n=0:=by
    by_cases ha:z7 f n=0
    ·rw[ha,vV]at h;exact⟨ha,h⟩
    ·rw[mL ha]at h;exact absurd h ha
   exact⟨by omega,by omega,vr.1 h1,zbe.1 h2⟩
theorem jX {f:Nat->Int} {n:Nat} {g:Nat->Int} {m:Nat} (h:zC f n g m=0):m=n/\2<=n/\n<=8/\jO f n/\js f n/\jO g n:=by
 unfold zC at h
 split at h
 ·omega
 ·rename_i hc
  have hc:n=m:=by omega
  subst hc
  obtain⟨h1,h2⟩:zR f n=0/\z7 g n=0:=by
   by_cases ha:zR f n=0
   ·rw[ha,vV]at h;exact⟨ha,h⟩
   ·rw[mL ha]at h;exact absurd h ha
  obtain⟨a,b,c,d⟩:=Je h1
  exact⟨rfl,a,b,c,d,vr.1 h2⟩
theorem vu {f:Nat->Int} {n:Nat} (h:js f n):∀i j,i<=j->j<n->f i<=f j:=by
 intro i j hij
 induction j with
 |zero=>intro _;have:i=0:=by omega
        subst this;exact Int.le_refl _
 |succ j ih=>
  intro hj
  by_cases e:i=j+1
  ·subst e;exact Int.le_refl _
  ·have h1:=ih (by omega) (by omega)
   have h2:=h j (by omega)
   omega
def yJ (f:Nat->Int) (n:Nat) (x:Int) (i:Nat):Prop:=i+2<=n/\(∀j,j<i->f (j+1)<=x)/\(i+2<n->x<f (i+1))
theorem GW (a m d:Int) (hd:0<d):Za (a*d+m) d=a+Za m d:=by
 unfold Za
 have e:2*(a*d+m)+d=(2*m+d)+a*(2*d):=by
  rw[Int.mul_add,<-Int.mul_assoc 2 a d,Int.mul_comm 2 a,Int.mul_assoc a 2 d];omega
 rw[e,Int.add_mul_ediv_right _ _ (by omega)];omega
theorem ZK (a d:Int) (hd:0<d):Za (a*d) d=a:=by
 have:=GW a 0 d hd
 rw[Int.add_zero]at this
 rw[this]
 unfold Za
 have:(2*0+d)/(2*d)=0:=Int.ediv_eq_zero_of_lt (by omega) (by omega)
 omega
def zbr (f g:Nat->Int) (i:Nat) (x:Int):Int:=g i+Za ((x-f i)*(g (i+1)-g i)) (f (i+1)-f i)
def zez (f g:Nat->Int) (i:Nat) (x:Int):Int:=Za (g i*(f (i+1)-x)+g (i+1)*(x-f i)) (f (i+1)-f i)
theorem ziq (f g:Nat->Int) (i:Nat) (x:Int) (h:f i<f (i+1)):zbr f g i x=zez f g i x:=by
 unfold zbr zez
 rw[<-GW _ _ _ (by omega)]
 congr 1
 have e1:g i*(f (i+1)-f i)=g i*f (i+1)-g i*f i:=Int.mul_sub _ _ _
 have e2:(x-f i)*(g (i+1)-g i)=x*g (i+1)-x*g i-(f i*g (i+1)-f i*g i):=by rw[Int.sub_mul,Int.mul_sub,Int.mul_sub]
 have e3:g i*(f (i+1)-x)=g i*f (i+1)-g i*x:=Int.mul_sub _ _ _
 have e4:g (i+1)*(x-f i)=g (i+1)*x-g (i+1)*f i:=Int.mul_sub _ _ _
 rw[e1,e2,e3,e4,Int.mul_comm x (g (i+1)),Int.mul_comm x (g i),Int.mul_comm (f i) (g (i+1)),Int.mul_comm (f i) (g i)]
 omega
theorem zir (f g:Nat->Int) (i:Nat) (h:f i<f (i+1)):zbr f g i (f (i+1))=g (i+1):=by
 unfold zbr
 rw[Int.mul_comm,ZK _ _ (by omega)];omega
theorem zis (f g:Nat->Int) (i:Nat) (h:f i<f (i+1)):zbr f g i (f i)=g i:=by
 unfold zbr
 rw[Int.sub_self,Int.zero_mul]
 have:=ZK 0 (f (i+1)-f i) (by omega)
 rw[Int.zero_mul]at this
 omega
theorem zbf {f:Nat->Int} {n:Nat} {x:Int} {i j:Nat} (hi:yJ f n x i) (hj:yJ f n x j):i=j:=by
 obtain⟨a1,a2,a3⟩:=hi
 obtain⟨b1,b2,b3⟩:=hj
 rcases Nat.lt_trichotomy i j with h|h|h
 ·have:=b2 i h;have:=a3 (by omega);omega
 ·exact h
 ·have:=a2 j h;have:=b3 (by omega);omega
def ppc (f:Nat->Int) (x:Int):Nat->Nat->Nat
 |0,i=>i
 |d+1,i=>if f (i+1)<=x then ppc f x d (i+1)else i
theorem zbg (f:Nat->Int) (x:Int) (n:Nat):∀d i,i+2+d=n->(∀j,j<i->f (j+1)<=x)->yJ f n x (ppc f x d i):=by
 intro d
 induction d with
 |zero=>intro i h1 h2;exact⟨by show i+2<=n;omega,h2,fun h=>(by have h3:i+2<n:=h;omega)⟩
 |succ d ih=>
  intro i h1 h2
  unfold ppc
  split
  ·rename_i hx
   refine ih (i+1) (by omega) fun j hj=>?_
   rcases Nat.lt_succ_iff_lt_or_eq.1 hj with hj|rfl
   ·exact h2 j hj
   ·exact hx
  ·exact⟨by omega,h2,fun _=>by omega⟩
def qa (f g:Nat->Int) (n:Nat) (x:Int):Int:=zbr f g (ppc f (zm x (f 0) (f (n-1))) (n-2) 0) (zm x (f 0) (f (n-1)))
theorem gx {f g:Nat->Int} {n:Nat} {x:Int} {i:Nat} (h:yJ f n (zm x (f 0) (f (n-1))) i):qa f g n x=zbr f g i (zm x (f 0) (f (n-1))):=by
 unfold qa
 rw[zbf (zbg f (zm x (f 0) (f (n-1))) n (n-2) 0 (by have:=h.1;omega) (fun j hj=>absurd hj (Nat.not_lt_zero j))) h]
theorem Wa {f g:Nat->Int} {n:Nat} {x:Int} (hn:2<=n) (hr:js f n) (h:f (n-1)<=x):qa f g n x=g (n-1):=by
 have h0:=vu hr 0 (n-1) (by omega) (by omega)
 have e:zm x (f 0) (f (n-1))=f (n-1):=by unfold zm;omega
 obtain⟨m,rfl⟩:∃m,n=m+2:=⟨n-2,by omega⟩
 have hp:yJ f (m+2) (zm x (f 0) (f (m+2-1))) m:=⟨by omega,fun j hj=>by rw[e];exact vu hr _ _ (by omega) (by omega),fun h=>absurd h (by omega)⟩
 rw[gx hp,e]
 exact zir f g m (hr m (by omega))
theorem Y4 {f g:Nat->Int} {n:Nat} {x:Int} (hn:2<=n) (hr:js f n) (h:x<=f 0):qa f g n x=g 0:=by
 have h0:=vu hr 0 (n-1) (by omega) (by omega)
 have e:zm x (f 0) (f (n-1))=f 0:=by unfold zm;omega
 have hp:yJ f n (zm x (f 0) (f (n-1))) 0:=⟨by omega,fun j hj=>absurd hj (Nat.not_lt_zero j),fun _=>by rw[e];exact hr 0 (by omega)⟩
 rw[gx hp,e]
 exact zis f g 0 (hr 0 (by omega))
theorem zbh {f g:Nat->Int} {n:Nat} {x:Int} {i:Nat} (hr:js f n) (h1:f 0<x) (h2:x<f (n-1)) (hi:i+2<=n) (h3:f i<=x) (h4:x<f (i+1)):qa f g n x=zez f g i x:=by
 have e:zm x (f 0) (f (n-1))=x:=by unfold zm;omega
 have hp:yJ f n (zm x (f 0) (f (n-1))) i:=⟨hi,fun j hj=>by rw[e];exact Int.le_trans (vu hr (j+1) i (by omega) (by omega)) h3,fun _=>by rw[e];exact h4⟩
 rw[gx hp,e]
 exact ziq f g i x (hr i (by omega))
end Go.Proofs.YtoakpnoajmngmaaGreatDoor
namespace Go.Proofs.YtoakpnoajmngmaaGreatDoor
open Go.RowKit
def yK (w:World) (A:Option Addr) (n:Nat) (f:Nat->Int):Prop:=
 ∀k,k<n->∃b off,A=some ⟨b,off,none⟩/\b<w.heap.size/\w.cell? ⟨b,off+k,none⟩=some (.int .i64 (f k))
theorem yK.below {w w':World} {A:Option Addr} {n:Nat} {f:Nat->Int} (h:yK w A n f) (hb:Below w.heap.size w w'):yK w' A n f:=fun k hk=>by
 obtain⟨b,off,h1,h2,h3⟩:=h k hk
 exact⟨b,off,h1,Nat.lt_of_lt_of_le h2 hb.size,(hb.cell (p:=⟨b,_,none⟩) h2).trans h3⟩
theorem yK.nil (w:World) (A:Option Addr) (f:Nat->Int):yK w A 0 f:=fun _ h=>absurd h (Nat.not_lt_zero _)
theorem yK.congr {w:World} {A:Option Addr} {n:Nat} {f g:Nat->Int} (h:yK w A n f) (e:∀k,k<n->f k=g k):yK w A n g:=fun k hk=>by
 obtain⟨b,off,h1,h2,h3⟩:=h k hk
 exact⟨b,off,h1,h2,by rw[<-e k hk];exact h3⟩
theorem KM {w:World} {base:Nat} {e:TypeId} {v:Value} {n:Nat} {l:List Int} (h:w.ownsRow base e 1 v n (l.map (Value.int .i64))):
  ∃A c,v= .slice A n c/\n<=c/\c<=maxLen/\l.length=n/\(∀b off s,A=some ⟨b,off,s⟩->base<=b/\s=none/\off=0)/\yK w A n (fun k=>l[k]?.getD 0):=by
 have hl:l.length=n:=by simpa using h.1
 have hh:=h
 rcases h.2 with⟨rfl,rfl⟩|⟨g,cap,cur,rfl,hb,hg,hnc,hcm,_,_⟩
 ·exact⟨none,0,rfl,Nat.le_refl _,Nat.zero_le _,hl,(fun _ _ _ h=>by cases h),yK.nil _ _ _⟩
 ·refine⟨_,cap,rfl,hnc,hcm,hl,(fun _ _ _ h=>by cases h;exact⟨hb,rfl,rfl⟩),fun k hk=>⟨g,0,rfl,(Array.getElem?_eq_some_iff.1 hg).1,?_⟩⟩
  have hc:=hh.cells (g:=g) rfl k (.int .i64 (l[k]?.getD 0)) (by rw[List.getElem?_map,List.getElem?_eq_getElem (by omega)];rfl)
  have hadd:(⟨g,0,none⟩:Addr).add k=⟨g,0+k,none⟩:=by unfold Addr.add;split<;>simp_all
  rwa[hadd]at hc
theorem jl {w w':World} {base:Nat} {e:TypeId} {size:Nat} {v:Value} {n:Nat} {xs:List Value} (h:w.ownsRow base e size v n xs) {B:Nat} (hb:Below B w w') (hB:w.heap.size<=B):w'.ownsRow base e size v n xs:=by
 obtain⟨h1,h2⟩:=h
 refine⟨h1,?_⟩
 rcases h2 with h2|⟨g,cap,cur,hv,hg,hh,r⟩
 ·exact .inl h2
 ·exact .inr ⟨g,cap,cur,hv,hg,by rw[hb.block g (by have:=(Array.getElem?_eq_some_iff.1 hh).1;omega)];exact hh,r⟩
theorem yC {w:World} {base base':Nat} {e:TypeId} {size:Nat} {v:Value} {n:Nat} {xs:List Value} (h:w.ownsRow base e size v n xs) (hb:base'<=base):w.ownsRow base' e size v n xs:=by
 obtain⟨h1,h2⟩:=h
 refine⟨h1,?_⟩
 rcases h2 with h2|⟨g,cap,cur,hv,hg,r⟩
 ·exact .inl h2
 ·exact .inr ⟨g,cap,cur,hv,Nat.le_trans hb hg,r⟩
theorem zit:(Tryz.prog.info? 3).map (fun i=>(i.zero,i.size,i.bytes))=some (some (.int .i64 0),1,8):=by kernel_rfl
theorem ZL (w:World) (r:Option Nat):w.grownBy w r:=⟨rfl,rfl,rfl,Nat.le_refl _,fun _ _ _=>rfl⟩
theorem xN {a b c:World} {r:Option Nat} (h:a.grownBy b r) (k:b.grownBy c r):a.grownBy c r:=
 ⟨k.os.trans h.os,k.tape.trans h.tape,k.output.trans h.output,Nat.le_trans h.size k.size,fun i hi hr=>(k.block i (Nat.lt_of_lt_of_le hi h.size) hr).trans (h.block i hi hr)⟩
theorem yr {a w:World} {b:Nat} (h:a.grownBy w (some b)) {p:Addr} (hp:p.block=b) (u:Value):a.grownBy (w.setCell p u) (some b):=
 xN h ⟨rfl,rfl,rfl,by simp[World.setCell],fun k _ hr=>Below.heap_setCell _ _ _ _ (fun e=>hr (by rw[e,hp]))⟩
theorem wU {a w:World} {r:Option Nat} (h:a.grownBy w r) (o:Obj):a.grownBy (w.alloc o) r:=
 xN h ⟨rfl,rfl,rfl,by simp,fun k hk _=>Below.heap_alloc _ _ _ hk⟩
theorem Zq {a w:World} {r:Option Nat} (h:a.grownBy w r):a.grownBy w.drew r:=⟨h.os,h.tape,h.output,h.size,h.block⟩
theorem Y5 {a w:World} {r:Option Nat} (h:a.grownBy w r) (n:Nat):a.grownBy (w.drewN n) r:=⟨h.os,h.tape,h.output,h.size,h.block⟩
theorem wV {a w w':World} {r:Option Nat} (h:a.grownBy w r) (hb:Below w.heap.size w w'):a.grownBy w' r:=
 xN h ⟨hb.os,hb.tape,hb.output,hb.size,fun k hk _=>hb.block k hk⟩
theorem zp {a w:World} {b:Nat} (h:a.grownBy w (some b)) {c i:Nat} {v:Value} (hc:a.cell? ⟨c,i,none⟩=some v) (hne:c≠b):w.cell? ⟨c,i,none⟩=some v:=
 h.cell hc (fun e=>hne (by simpa using e))
theorem y0 {a w:World} {b:Nat} (h:a.grownBy w (some b)) {c:Nat} (hc:c<a.heap.size) (hne:c≠b) (o:Nat):w.frozen? ⟨c,o,none⟩=a.frozen? ⟨c,o,none⟩:=
 World.frozen?_of_block (w:=a) (h.block c hc (fun e=>hne (by simpa using e)))
theorem xz {a w:World} {B b:Nat} (h:a.grownBy w (some b)) (hB:B<=b) (hs:B<=a.heap.size):Below B a w:=
 ⟨h.os,h.tape,h.output,h.size,fun k hk=>h.block k (by omega) (fun e=>by have:k=b:=by simpa using e
                                                                        omega)⟩
theorem ziu {w:World} {v:Value} {t:TypeId} {b:Nat} (hb:b=w.heap.size):∀(j:Nat) (u:Value),[v][j]? =some u->(w.alloc (.cells #[v] t)).cell? ((⟨b,0,none⟩:Addr).add j)=some u:=by
 intro j u h
 match j,h with
 |0,h=>
  simp at h
  subst h
  exact j4 hb rfl
theorem zeA (y:Int):∀u∈ [Value.int .i64 y],u.oneCell'=true:=by
 intro u hu
 simp at hu
 subst hu
 rfl
theorem Below.app {B:Nat} {a w w':World} {v:Value} {base:Nat} {e:TypeId} {size n:Nat} {xs:List Value} (h:Below B a w) (hg:w.grownBy w' v.ownBlock) (ho:w.ownsRow base e size v n xs) (hB:B<=base) (hs:B<=w.heap.size):Below B a w':=
 h.grown hg hs (fun k hk=>Nat.le_trans hB (ho.lt k hk).1)
theorem kD (a b m:Int) (h:m=min a b) (ts:Array TypeId) (t:TypeId) (w:World):(Builtin.min_ ts t #[.int .i64 a,.int .i64 b]).run Tryz.prog w= .ok (.int .i64 m) w:=by
 rw[run_min_int2,h];congr 2;split<;>omega
theorem vw (a b m:Int) (h:m=max a b) (ts:Array TypeId) (t:TypeId) (w:World):(Builtin.max_ ts t #[.int .i64 a,.int .i64 b]).run Tryz.prog w= .ok (.int .i64 m) w:=by
 rw[run_max_int2,h];congr 2;split<;>omega
end Go.Proofs.YtoakpnoajmngmaaGreatDoor
namespace Go.Proofs.YtoakpnoajmngmaaGreatDoor
open Go.ChangeShapes Go.WideShapes Go.ChangeAt Go.RowKit Go.Deep
section
variable {H:Type} {enc:TypeId × Value->H} {P:Program} {w:World} {base:Nat} {spare:Nat->Bool} {held:Bool}
theorem zeB {t e:TypeId} {fuel:Nat} {cs:List Value} {x:DataW H × List MemPlace} (k:Nat) (Q:List Value->Prop) (ht:P.underlying t=some (.slice e)) (hk:P.cellsOf e=k) (hk0:0<k)
  (hQ:∀(n:Nat) (cs:List Value) (x:DataW H × List MemPlace),DataW.trod enc P w base spare held n e cs=some x->Q cs)
  (h:DataW.trod enc P w base spare held fuel t cs=some x):
  ∃(A:Option Addr) (n c:Nat),cs=[.slice A n c]/\n<=c/\c<=maxLen/\(n=0\/∃b off,A=some ⟨b,off,none⟩/\b<w.heap.size/\∀i,i<n->∃cs:List Value,cs.length=k/\Q cs/\∀j,j<k->w.cell? ⟨b,off+i*k+j,none⟩=cs[j]?):=by
 rcases open_slice ht h with⟨rfl,_⟩|⟨a,n,c,m,n',D,Pl,rfl,_,hl,hm,hmm,_,hx⟩
 ·exact⟨none,0,0,rfl,Nat.le_refl _,Nat.zero_le _,.inl rfl⟩
 ·refine⟨some a,n,c,rfl,hl,hm,?_⟩
  by_cases hn:n=0
  ·exact .inl hn
  ·right
   have hle:n<=m:=by rw[hmm];split<;>omega
   rw[hk]at hx
   have hcell:∀i,i<n->∃cs:List Value,cs.length=k/\Q cs/\∀j,j<k->w.cell? ((a.add (i*k)).add j)=cs[j]? :=by
    intro i hi
    obtain⟨cs,hc,htr⟩:=hx i (by omega)
    obtain⟨_,hlen,hcc⟩:=World.cells?_some hc
    exact⟨cs,hlen,hQ _ _ _ htr,hcc⟩
   obtain⟨b,off,spot⟩:=a
   obtain⟨cs,hlen,_,hcc⟩:=hcell 0 (by omega)
   have h1:=hcc 0 hk0
   have hs:cs[0]? =some (cs[0]'(by omega)):=List.getElem?_eq_getElem (by omega)
   rw[hs]at h1
   have hspot:spot=none:=by simpa [Addr.add]using World.cell?_spot h1
   subst hspot
   have hlt:b<w.heap.size:=by
    rcases Nat.lt_or_ge b w.heap.size with h2|h2
    ·exact h2
    ·simp[Addr.add,World.cell?,Array.getElem?_eq_none h2]at h1
   refine⟨b,off,rfl,hlt,fun i hi=>?_⟩
   obtain⟨cs,h2,h3,h4⟩:=hcell i hi
   refine⟨cs,h2,h3,fun j hj=>?_⟩
   have h5:=h4 j hj
   rwa[add_plain,add_plain]at h5
end
end Go.Proofs.YtoakpnoajmngmaaGreatDoor
namespace Go.Proofs.YtoakpnoajmngmaaGreatDoor
open Go.ChangeShapes Go.WideShapes Go.ChangeAt Go.RowKit Go.Deep
def zmZ:Nat->List Bool->List Bool
 |0,_=>[]
 |m+1,ks=>ks++zmZ m ks
theorem zeC {ks:List Bool}:∀ {m j:Nat} {k:Bool},(zmZ m ks)[j]? =some k->∃i j',i<m/\j=i*ks.length+j'/\ks[j']? =some k:=by
 intro m
 induction m with
 |zero=>intro j k h;simp[zmZ]at h
 |succ m ih=>
  intro j k h
  rw[zmZ,List.getElem?_append]at h
  split at h
  ·exact⟨0,j,Nat.zero_lt_succ _,by simp,h⟩
  ·obtain⟨i,j',h1,h2,h3⟩:=ih h
   exact⟨i+1,j',by omega,by rw[Nat.add_mul,Nat.one_mul];omega,h3⟩
def GX (P:Program) (g:TypeId->Option (List Bool)):List Field->Nat->Option (List Bool)
 |[],_=>some []
 |f::l,acc=>match g f.type,GX P g l (acc+P.cellsOf f.type)with
  |some ks,some r=>if f.offset=acc/\P.cellsOf f.type=ks.length then some (ks++r)else none
  |_,_=>none
def flatK (P:Program):Nat->TypeId->Option (List Bool)
 |0,_=>none
 |n+1,t=>match P.underlying t with
  |some (.int .i64)=>some [true]
  |some .bool=>some [false]
  |some (.struct fs)=>GX P (flatK P n) fs.toList 0
  |some (.array m e)=>match flatK P n e with
   |some ks=>if P.cellsOf e=ks.length then some (zmZ m ks)else none
   |none=>none
  |_=>none
theorem Wb {P:Program} {g:TypeId->Option (List Bool)}:∀ {l:List Field} {acc:Nat} {K:List Bool},GX P g l acc=some K->∀(j:Nat) (k:Bool),K[j]? =some k->∃(i:Nat) (f:Field) (ks:List Bool) (j':Nat),l[i]? =some f/\g f.type=some ks/\P.cellsOf f.type=ks.length/\acc+j=f.offset+j'/\ks[j']? =some k:=by
 intro l
 induction l with
 |nil=>intro acc K h j k hk;cases h;simp at hk
 |cons f l ih=>
  intro acc K h j k hk
  simp only[GX]at h
  split at h
  ·rename_i ks r h1 h2
   split at h
   ·rename_i hc
    cases h
    rw[List.getElem?_append]at hk
    split at hk
    ·exact⟨0,f,ks,j,rfl,h1,hc.2,by omega,hk⟩
    ·obtain⟨i,f',ks',j',a1,a2,a3,a4,a5⟩:=ih h2 _ _ hk
     exact⟨i+1,f',ks',j',a1,a2,a3,by omega,a5⟩
   ·cases h
  ·cases h
section
variable {H:Type} {enc:TypeId × Value->H} {P:Program} {w:World} {base:Nat} {spare:Nat->Bool} {held:Bool}
theorem zeD:∀ {n:Nat} {t:TypeId} {K:List Bool},flatK P n t=some K->∀(fuel:Nat) (cs:List Value) (x:DataW H × List MemPlace),DataW.trod enc P w base spare held fuel t cs=some x->∀(j:Nat) (k:Bool),K[j]? =some k->(k=true->∃y,cs[j]? =some (.int .i64 y)/\B64 y)/\(k=false->∃y,cs[j]? =some (.bool y)):=by
 intro n
 induction n with
 |zero=>intro t K h;cases h
 |succ n ih=>
  intro t K h fuel cs x hx j k hk
  simp only[flatK]at h
  split at h
  ·rename_i hu
   cases h
   obtain⟨y,rfl,_,hw⟩:=DataW.trod_int hu hx
   match j,hk with
   |0,hk=>cases hk;exact⟨fun _=>⟨y,rfl,zeL hw⟩,fun h=>(by cases h)⟩
  ·rename_i hu
   cases h
   obtain⟨y,rfl,_⟩:=DataW.trod_bool hu hx
   match j,hk with
   |0,hk=>cases hk;exact⟨fun h=>(by cases h),fun _=>⟨y,rfl⟩⟩
  ·rename_i fs hu
   obtain⟨i,f,ks,j',a1,a2,a3,a4,a5⟩:=Wb h j k hk
   obtain⟨xs,m,_,_,_,hl,hf⟩:=DataW.trod_struct hu hx
   rw[Array.getElem?_toList]at a1
   have h1:=hf i f a1
   have hil:i<fs.size:=(Array.getElem?_eq_some_iff.1 a1).1
   rw[List.getElem?_eq_getElem (show i<xs.length by omega)]at h1
   have h2:=ih a2 _ _ _ h1 j' k a5
   have hj:j'<ks.length:=(List.getElem?_eq_some_iff.1 a5).1
   rw[List.getElem?_take,if_pos (by omega),List.getElem?_drop,<-a4,Nat.zero_add]at h2
   exact h2
  ·rename_i m e hu
   split at h
   ·rename_i ks hks
    split at h
    ·rename_i hc
     cases h
     obtain⟨i,j',a1,a2,a3⟩:=zeC hk
     obtain⟨xs,m',_,_,_,hl,hf⟩:=DataW.trod_array hu hx
     have h1:=hf i a1
     rw[List.getElem?_eq_getElem (show i<xs.length by omega)]at h1
     have h2:=ih hks _ _ _ h1 j' k a3
     have hj:j'<ks.length:=(List.getElem?_eq_some_iff.1 a3).1
     rw[List.getElem?_take,if_pos (by omega),List.getElem?_drop,hc,<-a2]at h2
     exact h2
    ·cases h
   ·cases h
  ·cases h
end
end Go.Proofs.YtoakpnoajmngmaaGreatDoor
namespace Go.Proofs.YtoakpnoajmngmaaGreatDoor
open Go.RowKit
theorem kY {a b:Int} (h:a=b):Value.int .u32 a= .int .u32 b:=by rw[h]
set_option maxHeartbeats 400000 in
theorem Wc (x:Nat) (w:World) (hx:x<4294967296):Calls Tryz.prog 106 #[.int .u32 x] w fun e w'=>e= .returned (.int .u32 (qV x:Nat))/\w=w':=by
 go_enter Tryz.func106,Tryz.ntmps106
 go_wp2
 go_loop [0,3,4] (fun a y i=>∃k:Nat,k<=8/\i= .int .i64 k/\a= .int .u32 ((x/2^k:Nat):Int)/\y= .int .u32 ((rev x k:Nat):Int)) (fun _ _ i=>8-(intOf i).toNat)
 case atStart=>exact⟨0,by omega,rfl,by simp,rfl⟩
 case round=>
  obtain⟨k,hk,rfl,rfl,rfl⟩:=hrel
  have hX:x/2^k<4294967296:=Nat.lt_of_le_of_lt (Nat.div_le_self _ _) hx
  have e1:Hid ((x/2^(k+1):Nat)=x/2^k/2):=by unfold Hid;rw[Nat.pow_succ,Nat.div_div_eq_div_mul]
  have e2:Hid (rev x (k+1)=2*rev x k+x/2^k%2):=rfl
  have e3:Hid (k=8->rev x k=qV x):=fun h=>by subst h;exact zpx x
  have hR:=Wq x k
  have hR2:k<8->rev x k<128:=fun h=>Nat.lt_of_lt_of_le hR (Nat.pow_le_pow_right (n:=2) (by omega) (show k<=7 by omega))
  have HR:=Lib.hid hR2
  clear hR hR2
  generalize x/2^k=X at*
  generalize rev x k=R at*
  by_cases hlt:k<8
  ·have hRs:=zbt R X (HR.out hlt) hX
   have HRS:=Lib.hid hRs
   clear hRs
   go_wp2
   go_round
   case rel=>exact⟨k+1,by omega,by go_num,by rw[e1.out,Int.natCast_ediv];rfl,by rw[e2.out];exact kY HRS.out⟩
   case measure=>simp[intOf];omega
  ·go_wp2
   go_ret
   exact⟨zD (by rw[e3.out (by omega)]),rfl⟩
set_option maxHeartbeats 400000 in
theorem ziv (x:Nat) (w:World) (hx:x<4294967296):Calls Tryz.prog 105 #[.int .u32 x] w fun e w'=>e= .returned (.bool (mY x))/\w=w':=by
 have hE:Hid (mY x=(gz 32 x%2==1)):=rfl
 generalize mY x=q at*
 go_enter Tryz.func105,Tryz.ntmps105
 go_wp2
 go_loop [0,3] (fun a n=>∃v c:Nat,a= .int .u32 v/\n= .int .i64 c/\v<4294967296/\c<=32/\Hid (c+gz 32 v=gz 32 x)) (fun a _=>(intOf a).toNat)
 case atStart=>exact⟨x,0,rfl,rfl,hx,by omega,Nat.zero_add _⟩
 case round=>
  obtain⟨v,c,rfl,rfl,hv,hc,hs⟩:=hrel
  have hle:=Wo 32 x
  by_cases h0:0<v
  ·have h1:Hid (bits .and .u32 (v:Int) ((v:Int)-1)=((v &&& (v-1):Nat):Int)):=by
    unfold Hid
    rw[show(v:Int)-1=((v-1:Nat):Int)by omega]
    exact Ws v (v-1) hv (by omega)
   have h2:=KY 32 v h0 hv
   have h3:v &&& (v-1)<=v-1:=Nat.and_le_right
   have h4:Hid (c+1+gz 32 (v &&& (v-1))=gz 32 x):=by have:=hs.out;unfold Hid;omega
   have h5:c+1<=32:=by have:=h4.out;omega
   clear h2 hle hs
   generalize v &&& (v-1)=v' at*
   go_wp2
   go_round
   case rel=>exact⟨v',c+1,by rw[h1.out],by go_num,by omega,h5,h4⟩
   case measure=>rw[h1.out];simp[intOf];omega
  ·obtain rfl:v=0:=by omega
   have hc2:Hid (c=gz 32 x):=by have:=hs.out;rw[Wn]at this;unfold Hid;omega
   have hd:Hid (((c:Int)%2==1)=q):=by
    unfold Hid
    rw[hE.out,<-hc2.out,Bool.eq_iff_iff]
    simp
    omega
   clear hs hle hE
   go_wp2
   go_ret
   exact⟨jY hd.out,rfl⟩
theorem kF (x i:Int) (w:World) (h0:0<=x) (h1:x<=4294967295) (h2:0<=i) (h3:i<=31):Calls Tryz.prog 95 #[.int .i64 x,.int .i64 i] w fun e w'=>e= .returned (.int .i64 (x/2^i.toNat%2))/\w=w':=by
 go_enter Tryz.func95,Tryz.ntmps95
 go_wp2
 go_ret
 have hb:=KZ x i.toNat h0
 exact⟨zD (zfS _ hb.1 (by omega)),rfl⟩
set_option maxHeartbeats 400000 in
theorem zm0 (x:Nat) (w:World) (hx:x<4294967296):Calls Tryz.prog 60 #[.int .u32 x] w fun e w'=>e= .returned (.bool (mY x))/\w=w':=by
 have hE:Hid (mY x=(gz 32 x%2==1)):=rfl
 generalize mY x=q at*
 go_enter Tryz.func60,Tryz.ntmps60
 go_wp2
 go_loop [3,4] (fun n i=>∃k:Nat,k<=32/\i= .int .i64 k/\n= .int .i64 ((gz k x:Nat):Int)) (fun _ i=>32-(intOf i).toNat)
 case atStart=>exact⟨0,by omega,rfl,rfl⟩
 case round=>
  obtain⟨k,hk,rfl,rfl⟩:=hrel
  have e1:Hid (gz (k+1) x=gz k x+x/2^k%2):=Wp k x
  have e2:Hid (k=32->gz k x=gz 32 x):=fun h=>by rw[h]
  have hl:=Wo k x
  generalize gz k x=c at*
  by_cases hlt:k<32
  ·go_wp2_with (go_at_call 95;((with_reducible refine(kF _ _ _ (by omega) (by omega) (by omega) (by omega)).mono ?_);rintro e w' ⟨rfl,rfl⟩))
   go_round
   case rel=>exact⟨k+1,by omega,by go_num,by rw[e1.out,Int.natCast_add,<-ziP]⟩
   case measure=>simp[intOf];omega
  ·have hd:Hid (((c:Int)%2==1)=q):=by
    unfold Hid
    rw[hE.out,<-e2.out (by omega),Bool.eq_iff_iff]
    simp
    omega
   clear e2 hE
   go_wp2
   go_ret
   exact⟨jY hd.out,rfl⟩
end Go.Proofs.YtoakpnoajmngmaaGreatDoor
namespace Go.Proofs.YtoakpnoajmngmaaGreatDoor
open Go.RowKit
theorem wz {a b:Int} (h:a=b):Ending.returned (.int .u32 a)= .returned (.int .u32 b):=by rw[h]
def mN (x:Nat):Nat:=x+2147483648
def xO (T s t D:Nat):Nat:=if mY (T+s*256+D*1024+t*536870912)then T+s*256+D*1024+t*536870912 else mN (T+s*256+D*1024+t*536870912)
theorem KN (U D k V:Nat) (hk:k<19) (hU:U<2147483648) (h:Hid (U+D%2^k*1024=V)):(((V:Int)+(D:Int)/2^k%2*2^(10+k)%4294967296)%4294967296)=((U+D%2^(k+1)*1024:Nat):Int):=by
 rw[Y9,ziP,yh,<-h.out,Nat.pow_add]
 have h1:2^k<=2^18:=Nat.pow_le_pow_right (by omega) (by omega)
 have h2:=Nat.mod_lt D (Nat.pow_pos (n:=k) (show 0<2 by omega))
 generalize D/2^k=y at*
 generalize D%2^k=x at*
 generalize 2^k=p at*
 rcases Nat.mod_two_eq_zero_or_one y with e|e<;>rw[e]<;>omega
theorem kG (x:Nat) (o:Bool) (w:World) (hx:x<4294967296) (h:Unit->mY x=o):Calls Tryz.prog 60 #[.int .u32 x] w fun e w'=>e= .returned (.bool o)/\w=w':=by
 rw[<-h ()];exact zm0 x w hx
set_option maxHeartbeats 1000000 in
theorem zeE (l s t D T Q:Nat) (w:World) (h1:l<256) (h2:s<4) (h3:t<4) (h4:D<262144) (ht:T<256) (hT:Hid (qV l=T)) (hQ:Unit->xO T s t D=Q):Calls Tryz.prog 55 #[.agg #[.int .i64 l,.int .i64 s,.int .i64 t,.int .i64 D]] w fun e w'=>e= .returned (.int .u32 Q)/\Below w.heap.size w w':=by
  have hnn:¬(D:Int)<0:=by omega
  go_enter Tryz.func55,Tryz.ntmps55
  go_wp2
  go_loop [4,5] (fun a i=>∃k:Nat,k<=8/\i= .int .i64 k/\a= .int .u32 ((la l k:Nat):Int)) (fun _ i=>8-(intOf i).toNat)
  case atStart=>exact⟨0,by omega,rfl,rfl⟩
  case round=>
   obtain⟨k,hk,rfl,rfl⟩:=hrel
   have hl:=zfT l k
   have e1:Hid (la l (k+1)=la l k+l/2^(7-k)%2*2^k):=rfl
   have e2:Hid (k=8->la l k=T):=fun h=>by subst h;exact(la8 l).trans hT.out
   have HL:=Lib.hid hl
   clear hl
   generalize la l k=A at*
   by_cases hlt:k<8
   ·go_wp2_with (go_at_call 95;((with_reducible refine(kF _ _ _ (by omega) (by omega) (by omega) (by omega)).mono ?_);rintro e w' ⟨rfl,rfl⟩))
    go_round
    case rel=>exact⟨k+1,by omega,by go_num,by rw[e1.out];exact kY (Wt A l k hlt HL.out)⟩
    case measure=>simp[intOf];omega
   ·have hA:=(e2.out (by omega)).symm
    subst hA
    clear e1 HL
    go_wp2_with fail
    go_loopw [4,6] (fun a i wr=>∃k:Nat,k<=2/\i= .int .i64 k/\a= .int .u32 ((T+s%2^k*256+t%2^k*536870912:Nat):Int)/\Below w.heap.size w wr/\wr.cell? ⟨w.heap.size,1,none⟩=some (.int .i64 s)/\wr.cell? ⟨w.heap.size,2,none⟩=some (.int .i64 t)) (fun _ i _=>2-(intOf i).toNat)
    case atStart=>exact⟨0,by omega,rfl,by simp[Nat.mod_one],gW,by simp,by simp⟩
    case round=>
     obtain⟨k,hk,rfl,rfl,hbw,hc1,hc2⟩:=hrel
     generalize hU:T+s%2^k*256+t%2^k*536870912=U at*
     have HU:=Lib.hid hU
     clear hU
     by_cases hlt:k<2
     ·have f1:IntKind.i64.wrap 8=8:=qW _ (by omega) (by omega)
      have f2:IntKind.i64.wrap 29=29:=qW _ (by omega) (by omega)
      have f3:IntKind.i64.wrap 9=9:=qW _ (by omega) (by omega)
      have f4:IntKind.i64.wrap 30=30:=qW _ (by omega) (by omega)
      obtain rfl|rfl:k=0\/k=1:=by omega
      ·go_wp2_with fail
       go_region_held3 (fun ω=>ω.cell? ⟨w.heap.size,1,none⟩=some (.int .i64 s)/\ω.cell? ⟨w.heap.size,2,none⟩=some (.int .i64 t)) (first|(refine⟨?_,?_⟩<;>(repeat'(first|(with_reducible assumption)|(with_reducible refine zn ?_)|(with_reducible refine zt ?_)|(with_reducible refine zw ?_)|(with_reducible refine zS ?_ ?_)|(with_reducible refine za (by assumption) ?_ ?_)|omega|(simp;done)|(simp;omega)))<;>done)|go_keep) (first|(go_at_call 95;((with_reducible refine(kF _ _ _ (by omega) (by omega) (by omega) (by omega)).mono ?_);rintro e w' ⟨rfl,rfl⟩)))
       go_wp2
       go_roundw
       case rel=>exact⟨1,by omega,by go_num,kY (by have:=HU.out;simp only[IntKind.wrap_u32];omega),gW,hc1,hc2⟩
       case measure=>simp[intOf]
      ·go_wp2_with fail
       go_region_held3 (fun ω=>ω.cell? ⟨w.heap.size,1,none⟩=some (.int .i64 s)/\ω.cell? ⟨w.heap.size,2,none⟩=some (.int .i64 t)) (first|(refine⟨?_,?_⟩<;>(repeat'(first|(with_reducible assumption)|(with_reducible refine zn ?_)|(with_reducible refine zt ?_)|(with_reducible refine zw ?_)|(with_reducible refine zS ?_ ?_)|(with_reducible refine za (by assumption) ?_ ?_)|omega|(simp;done)|(simp;omega)))<;>done)|go_keep) (first|(go_at_call 95;((with_reducible refine(kF _ _ _ (by omega) (by omega) (by omega) (by omega)).mono ?_);rintro e w' ⟨rfl,rfl⟩)))
       go_wp2
       go_roundw
       case rel=>exact⟨2,by omega,by go_num,kY (by have:=HU.out;simp only[IntKind.wrap_u32];omega),gW,hc1,hc2⟩
       case measure=>simp[intOf]
     ·have hk2:k=2:=by omega
      have hB:Hid (T+s*256+t*536870912=U):=by have h9:=HU.out;rw[hk2,Nat.mod_eq_of_lt (show s<2^2 by omega),Nat.mod_eq_of_lt (show t<2^2 by omega)]at h9;exact h9
      have hUb:U<2147483648:=by have:=hB.out;omega
      clear HU hk2
      go_wp2_with fail
      have z0:Value.int .u32 (U:Int)= .int .u32 ((U+D%2^0*1024:Nat):Int):=by rw[Nat.pow_zero,Nat.mod_one,Nat.zero_mul,Nat.add_zero]
      have Z0:=Lib.hid z0
      clear z0
      go_loop [4,7] (fun a i=>∃k:Nat,k<=19/\i= .int .i64 k/\a= .int .u32 ((U+D%2^k*1024:Nat):Int)) (fun _ i=>19-(intOf i).toNat)
      case atStart=>exact⟨0,by omega,rfl,Z0.out⟩
      case round=>
       obtain⟨k,hk,rfl,rfl⟩:=hrel
       clear Z0
       generalize hV:U+D%2^k*1024=V at*
       have HV:=Lib.hid hV
       clear hV
       by_cases hlt:k<19
       ·go_wp2_with (go_at_call 95;((with_reducible refine(kF _ _ _ (by omega) (by omega) (by omega) (by omega)).mono ?_);rintro e w' ⟨rfl,rfl⟩))
        go_round
        case rel=>exact⟨k+1,by omega,by go_num,kY (KN U D k V (by omega) hUb HV)⟩
        case measure=>simp[intOf];omega
       ·have hk2:k=19:=by omega
        have hC:Hid (U+D*1024=V):=by have h9:=HV.out;rw[hk2,Nat.mod_eq_of_lt (show D<2^19 by omega)]at h9;exact h9
        have hVb:V<2147483648:=by have h9:=hC.out;have h8:=hB.out;omega
        obtain⟨o,ho⟩:∃o,Unit->mY V=o:=⟨_,fun _=>rfl⟩
        have hP:Hid (Q=if o then V else mN V):=by
         rw[Hid,<-hQ ()]
         unfold xO
         rw[show T+s*256+D*1024+t*536870912=V by rw[<-hC.out,<-hB.out];omega,ho ()]
        clear HV hk2 hC hB hQ
        cases o
        ·have hQ:Hid (mN V=Q):=hP.out.symm
         clear hP
         go_wp2_with (go_at_call 60;((with_reducible refine(kG _ _ _ (by omega) ho).mono ?_);rintro e w' ⟨rfl,rfl⟩))
         go_ret
         exact⟨wz (by rw[<-hQ.out];unfold mN;omega),hbw⟩
        ·have hQ:Hid (V=Q):=hP.out.symm
         clear hP
         go_wp2_with (go_at_call 60;((with_reducible refine(kG _ _ _ (by omega) ho).mono ?_);rintro e w' ⟨rfl,rfl⟩))
         go_ret
         exact⟨wz (by rw[hQ.out]),hbw⟩
set_option maxHeartbeats 1000000 in
theorem zeF (l s t D T Q:Nat) (w:World) (h1:l<256) (h2:s<4) (h3:t<4) (h4:D<524288) (d:Int) (h5:d<0) (h6: -262144<=d) (hd:Hid (d+524288=D)) (ht:T<256) (hT:Hid (qV l=T)) (hQ:Unit->xO T s t D=Q):Calls Tryz.prog 55 #[.agg #[.int .i64 l,.int .i64 s,.int .i64 t,.int .i64 d]] w fun e w'=>e= .returned (.int .u32 Q)/\Below w.heap.size w w':=by
  go_enter Tryz.func55,Tryz.ntmps55
  go_wp2
  rw[hd.out]
  go_loop [4,5] (fun a i=>∃k:Nat,k<=8/\i= .int .i64 k/\a= .int .u32 ((la l k:Nat):Int)) (fun _ i=>8-(intOf i).toNat)
  case atStart=>exact⟨0,by omega,rfl,rfl⟩
  case round=>
   obtain⟨k,hk,rfl,rfl⟩:=hrel
   have hl:=zfT l k
   have e1:Hid (la l (k+1)=la l k+l/2^(7-k)%2*2^k):=rfl
   have e2:Hid (k=8->la l k=T):=fun h=>by subst h;exact(la8 l).trans hT.out
   have HL:=Lib.hid hl
   clear hl
   generalize la l k=A at*
   by_cases hlt:k<8
   ·go_wp2_with (go_at_call 95;((with_reducible refine(kF _ _ _ (by omega) (by omega) (by omega) (by omega)).mono ?_);rintro e w' ⟨rfl,rfl⟩))
    go_round
    case rel=>exact⟨k+1,by omega,by go_num,by rw[e1.out];exact kY (Wt A l k hlt HL.out)⟩
    case measure=>simp[intOf];omega
   ·have hA:=(e2.out (by omega)).symm
    subst hA
    clear e1 HL
    go_wp2_with fail
    go_loopw [4,6] (fun a i wr=>∃k:Nat,k<=2/\i= .int .i64 k/\a= .int .u32 ((T+s%2^k*256+t%2^k*536870912:Nat):Int)/\Below w.heap.size w wr/\wr.cell? ⟨w.heap.size,1,none⟩=some (.int .i64 s)/\wr.cell? ⟨w.heap.size,2,none⟩=some (.int .i64 t)) (fun _ i _=>2-(intOf i).toNat)
    case atStart=>exact⟨0,by omega,rfl,by simp[Nat.mod_one],gW,by simp,by simp⟩
    case round=>
     obtain⟨k,hk,rfl,rfl,hbw,hc1,hc2⟩:=hrel
     generalize hU:T+s%2^k*256+t%2^k*536870912=U at*
     have HU:=Lib.hid hU
     clear hU
     by_cases hlt:k<2
     ·have f1:IntKind.i64.wrap 8=8:=qW _ (by omega) (by omega)
      have f2:IntKind.i64.wrap 29=29:=qW _ (by omega) (by omega)
      have f3:IntKind.i64.wrap 9=9:=qW _ (by omega) (by omega)
      have f4:IntKind.i64.wrap 30=30:=qW _ (by omega) (by omega)
      obtain rfl|rfl:k=0\/k=1:=by omega
      ·go_wp2_with fail
       go_region_held3 (fun ω=>ω.cell? ⟨w.heap.size,1,none⟩=some (.int .i64 s)/\ω.cell? ⟨w.heap.size,2,none⟩=some (.int .i64 t)) (first|(refine⟨?_,?_⟩<;>(repeat'(first|(with_reducible assumption)|(with_reducible refine zn ?_)|(with_reducible refine zt ?_)|(with_reducible refine zw ?_)|(with_reducible refine zS ?_ ?_)|(with_reducible refine za (by assumption) ?_ ?_)|omega|(simp;done)|(simp;omega)))<;>done)|go_keep) (first|(go_at_call 95;((with_reducible refine(kF _ _ _ (by omega) (by omega) (by omega) (by omega)).mono ?_);rintro e w' ⟨rfl,rfl⟩)))
       go_wp2
       go_roundw
       case rel=>exact⟨1,by omega,by go_num,kY (by have:=HU.out;simp only[IntKind.wrap_u32];omega),gW,hc1,hc2⟩
       case measure=>simp[intOf]
      ·go_wp2_with fail
       go_region_held3 (fun ω=>ω.cell? ⟨w.heap.size,1,none⟩=some (.int .i64 s)/\ω.cell? ⟨w.heap.size,2,none⟩=some (.int .i64 t)) (first|(refine⟨?_,?_⟩<;>(repeat'(first|(with_reducible assumption)|(with_reducible refine zn ?_)|(with_reducible refine zt ?_)|(with_reducible refine zw ?_)|(with_reducible refine zS ?_ ?_)|(with_reducible refine za (by assumption) ?_ ?_)|omega|(simp;done)|(simp;omega)))<;>done)|go_keep) (first|(go_at_call 95;((with_reducible refine(kF _ _ _ (by omega) (by omega) (by omega) (by omega)).mono ?_);rintro e w' ⟨rfl,rfl⟩)))
       go_wp2
       go_roundw
       case rel=>exact⟨2,by omega,by go_num,kY (by have:=HU.out;simp only[IntKind.wrap_u32];omega),gW,hc1,hc2⟩
       case measure=>simp[intOf]
     ·have hk2:k=2:=by omega
      have hB:Hid (T+s*256+t*536870912=U):=by have h9:=HU.out;rw[hk2,Nat.mod_eq_of_lt (show s<2^2 by omega),Nat.mod_eq_of_lt (show t<2^2 by omega)]at h9;exact h9
      have hUb:U<2147483648:=by have:=hB.out;omega
      clear HU hk2
      go_wp2_with fail
      have z0:Value.int .u32 (U:Int)= .int .u32 ((U+D%2^0*1024:Nat):Int):=by rw[Nat.pow_zero,Nat.mod_one,Nat.zero_mul,Nat.add_zero]
      have Z0:=Lib.hid z0
      clear z0
      go_loop [4,7] (fun a i=>∃k:Nat,k<=19/\i= .int .i64 k/\a= .int .u32 ((U+D%2^k*1024:Nat):Int)) (fun _ i=>19-(intOf i).toNat)
      case atStart=>exact⟨0,by omega,rfl,Z0.out⟩
      case round=>
       obtain⟨k,hk,rfl,rfl⟩:=hrel
       clear Z0
       generalize hV:U+D%2^k*1024=V at*
       have HV:=Lib.hid hV
       clear hV
       by_cases hlt:k<19
       ·go_wp2_with (go_at_call 95;((with_reducible refine(kF _ _ _ (by omega) (by omega) (by omega) (by omega)).mono ?_);rintro e w' ⟨rfl,rfl⟩))
        go_round
        case rel=>exact⟨k+1,by omega,by go_num,kY (KN U D k V (by omega) hUb HV)⟩
        case measure=>simp[intOf];omega
       ·have hk2:k=19:=by omega
        have hC:Hid (U+D*1024=V):=by have h9:=HV.out;rw[hk2,Nat.mod_eq_of_lt (show D<2^19 by omega)]at h9;exact h9
        have hVb:V<2147483648:=by have h9:=hC.out;have h8:=hB.out;omega
        obtain⟨o,ho⟩:∃o,Unit->mY V=o:=⟨_,fun _=>rfl⟩
        have hP:Hid (Q=if o then V else mN V):=by
         rw[Hid,<-hQ ()]
         unfold xO
         rw[show T+s*256+D*1024+t*536870912=V by rw[<-hC.out,<-hB.out];omega,ho ()]
        clear HV hk2 hC hB hQ
        cases o
        ·have hQ:Hid (mN V=Q):=hP.out.symm
         clear hP
         go_wp2_with (go_at_call 60;((with_reducible refine(kG _ _ _ (by omega) ho).mono ?_);rintro e w' ⟨rfl,rfl⟩))
         go_ret
         exact⟨wz (by rw[<-hQ.out];unfold mN;omega),hbw⟩
        ·have hQ:Hid (V=Q):=hP.out.symm
         clear hP
         go_wp2_with (go_at_call 60;((with_reducible refine(kG _ _ _ (by omega) ho).mono ?_);rintro e w' ⟨rfl,rfl⟩))
         go_ret
         exact⟨wz (by rw[hQ.out]),hbw⟩
def jm (d:Int):Nat:=(d%524288).toNat
theorem gy (d:Int):jm d<524288:=by unfold jm;omega
theorem ziw (l s t:Nat) (d:Int) (w:World) (h1:l<256) (h2:s<4) (h3:t<4) (h4: -262144<=d) (h5:d<=262143):Calls Tryz.prog 55 #[.agg #[.int .i64 l,.int .i64 s,.int .i64 t,.int .i64 d]] w fun e w'=>e= .returned (.int .u32 (xO (qV l) s t (jm d):Nat))/\Below w.heap.size w w':=by
 by_cases hd:d<0
 ·exact zeF l s t (jm d) (qV l) _ w h1 h2 h3 (gy d) d hd h4 (by unfold Hid jm;omega) (yL l) rfl (fun _=>rfl)
 ·obtain⟨D,rfl⟩:=Int.eq_ofNat_of_zero_le (by omega:0<=d)
  have e:jm (D:Int)=D:=by unfold jm;omega
  rw[e]
  exact zeE l s t D (qV l) _ w h1 h2 h3 (by omega) (yL l) rfl (fun _=>rfl)
end Go.Proofs.YtoakpnoajmngmaaGreatDoor
namespace Go.Proofs.YtoakpnoajmngmaaGreatDoor
open Go.RowKit
theorem kH (x:Nat) (o:Bool) (w:World) (hx:x<4294967296) (h:Unit->mY x=o):Calls Tryz.prog 105 #[.int .u32 x] w fun e w'=>e= .returned (.bool o)/\w=w':=by
 rw[<-h ()];exact ziv x w hx
def vx (x:Nat):Int:=if x/1024%524288>262143 then((x/1024%524288:Nat):Int)-524288 else((x/1024%524288:Nat):Int)
set_option maxHeartbeats 400000 in
theorem Zb (x:Nat) (w:World) (hx:x<4294967296) (ho:Unit->mY x=false):Calls Tryz.prog 71 #[.int .u32 x] w fun e w'=>e= .returned (.tuple #[.agg #[.int .i64 0,.int .i64 0,.int .i64 0,.int .i64 0],qp 3])/\Below w.heap.size w w':=by
 go_enter Tryz.func71,Tryz.ntmps71
 go_wp2_with (go_at_call 105;((with_reducible refine(kH _ _ _ (by omega) ho).mono ?_);rintro e w' ⟨rfl,rfl⟩))
 refine bodyPost_ret (v:= .tuple #[.agg #[.int .i64 0,.int .i64 0,.int .i64 0,.int .i64 0],qp 3]) ?_ rfl ⟨rfl,gW⟩
 simp[results,Tryz.results71,go_sem,qp]
theorem zeG {D:Nat} {x:Nat} (hD:Hid (x/1024%524288=D)) (h:262143<D):vx x=(D:Int)-524288:=by
 unfold vx;rw[hD.out,if_pos h]
theorem zeH {D:Nat} {x:Nat} (hD:Hid (x/1024%524288=D)) (h:¬ 262143<D):vx x=(D:Int):=by
 unfold vx;rw[hD.out,if_neg h]
theorem Y6 (x m d:Nat) (M:Int) (hx:x<4294967296) (hm:m<=31) (hM:M=((2^m-1:Nat):Int)):bits .and .u32 ((x:Int)/d) M=((x/d%2^m:Nat):Int):=by
 rw[hM,<-Int.natCast_ediv];exact vY (x/d) m (Nat.lt_of_le_of_lt (Nat.div_le_self _ _) hx) hm
theorem zbi (x:Nat):qV (x%256)=qV x:=by
 unfold qV
 rw[show x%256/2^0%2=x/2^0%2 by omega,show x%256/2^1%2=x/2^1%2 by omega,show x%256/2^2%2=x/2^2%2 by omega,show x%256/2^3%2=x/2^3%2 by omega,show x%256/2^4%2=x/2^4%2 by omega,show x%256/2^5%2=x/2^5%2 by omega,show x%256/2^6%2=x/2^6%2 by omega,show x%256/2^7%2=x/2^7%2 by omega]
theorem kZ (x t:Nat) (w:World) (hx:x<4294967296) (h:Unit->qV x=t):Calls Tryz.prog 106 #[.int .u32 x] w fun e w'=>e= .returned (.int .u32 t)/\w=w':=by
 rw[<-h ()];exact Wc x w hx
set_option maxHeartbeats 400000 in
theorem Jf (x A S T:Nat) (d:Int) (w:World) (hx:x<4294967296) (ho:Unit->mY x=true) (hA:Unit->qV x=A) (hS:Unit->x/256%4=S) (hT:Unit->x/536870912%4=T) (hd:Unit->vx x=d):
  Calls Tryz.prog 71 #[.int .u32 x] w fun e w'=>e= .returned (.tuple #[.agg #[.int .i64 A,.int .i64 S,.int .i64 T,.int .i64 d],qp 0])/\Below w.heap.size w w':=by
 have f1:bits .and .u32 ((x:Int)/1024) 524287=((x/1024%524288:Nat):Int):=Y6 x 19 1024 _ hx (by omega) rfl
 have f2:bits .and .u32 (x:Int) 255=((x%256:Nat):Int):=vY x 8 hx (by omega)
 have f3:bits .and .u32 ((x:Int)/256) 3=((x/256%4:Nat):Int):=Y6 x 2 256 _ hx (by omega) rfl
 have f4:bits .and .u32 ((x:Int)/536870912) 3=((x/536870912%4:Nat):Int):=Y6 x 2 536870912 _ hx (by omega) rfl
 rw[hS ()]at f3
 rw[hT ()]at f4
 have hS4:S<4:=by rw[<-hS ()];omega
 have hT4:T<4:=by rw[<-hT ()];omega
 have hA4:A<256:=by rw[<-hA ()];exact yL x
 have hL:Unit->qV (x%256)=A:=fun _=>(zbi x).trans (hA ())
 have hL4:x%256<256:=by omega
 have hD4:x/1024%524288<524288:=by omega
 generalize hD:x/1024%524288=D at*
 have HD:=Lib.hid hD
 clear hD
 generalize x%256=L at*
 have hd2:Unit->vx x=d:=hd
 clear hS hT hA
 by_cases hlt:262143<D
 ·have hdd:Hid ((D:Int)-524288=d):=by rw[Hid,<-hd (),zeG HD hlt]
  clear hd hd2
  go_enter Tryz.func71,Tryz.ntmps71
  go_wp2_with (first|(go_at_call 105;((with_reducible refine(kH _ _ _ (by omega) ho).mono ?_);rintro e w' ⟨rfl,rfl⟩))|(go_at_call 106;((with_reducible refine(kZ _ _ _ (by omega) hL).mono ?_);rintro e w' ⟨rfl,rfl⟩)))
  refine bodyPost_ret (v:= .tuple #[.agg #[.int .i64 A,.int .i64 S,.int .i64 T,.int .i64 d],qp 0]) ?_ rfl ⟨rfl,gW⟩
  simp[results,Tryz.results71,go_sem,qp,hdd.out]
 ·have hdd:Hid ((D:Int)=d):=by rw[Hid,<-hd (),zeH HD hlt]
  clear hd hd2
  go_enter Tryz.func71,Tryz.ntmps71
  go_wp2_with (first|(go_at_call 105;((with_reducible refine(kH _ _ _ (by omega) ho).mono ?_);rintro e w' ⟨rfl,rfl⟩))|(go_at_call 106;((with_reducible refine(kZ _ _ _ (by omega) hL).mono ?_);rintro e w' ⟨rfl,rfl⟩)))
  refine bodyPost_ret (v:= .tuple #[.agg #[.int .i64 A,.int .i64 S,.int .i64 T,.int .i64 d],qp 0]) ?_ rfl ⟨rfl,gW⟩
  simp[results,Tryz.results71,go_sem,qp,hdd.out]
end Go.Proofs.YtoakpnoajmngmaaGreatDoor
namespace Go.Proofs.YtoakpnoajmngmaaGreatDoor
open Go.RowKit
structure Rd where
 l:Int
 s:Int
 st:Int
 d:Int
theorem Rd.ext' {a b:Rd} (h1:a.l=b.l) (h2:a.s=b.s) (h3:a.st=b.st) (h4:a.d=b.d):a=b:=by
 cases a;cases b;simp_all
def Rd.lt (a b:Rd):Prop:=a.l<b.l\/(a.l=b.l/\a.s<b.s)
def Rd.same (a b:Rd):Prop:=a.l=b.l/\a.s=b.s
theorem Rd.lt_irrefl (a:Rd):¬a.lt a:=by unfold Rd.lt;omega
theorem Rd.lt_trans {a b c:Rd} (h1:a.lt b) (h2:b.lt c):a.lt c:=by unfold Rd.lt at*;omega
theorem Rd.lt_asymm {a b:Rd} (h1:a.lt b) (h2:b.lt a):False:=by unfold Rd.lt at*;omega
theorem Rd.tri (a b:Rd):a.lt b\/a.same b\/b.lt a:=by unfold Rd.lt Rd.same;omega
theorem Rd.lt_ns {a b:Rd} (h1:a.lt b):¬a.same b:=by unfold Rd.lt Rd.same at*;omega
theorem Rd.lt_same {a b c:Rd} (h1:a.lt b) (h2:b.same c):a.lt c:=by unfold Rd.lt Rd.same at*;omega
theorem Rd.same_lt {a b c:Rd} (h1:a.same b) (h2:b.lt c):a.lt c:=by unfold Rd.lt Rd.same at*;omega
theorem Rd.same_symm {a b:Rd} (h1:a.same b):b.same a:=⟨h1.1.symm,h1.2.symm⟩
def yf (r:Rd):List Rd->List Rd
 |[]=>[r]
 |x::t=>if x.l<r.l\/(x.l=r.l/\x.s<r.s)then x::yf r t else if x.l=r.l/\x.s=r.s then r::t else r::x::t
theorem xa {r q:Rd}:∀ {L:List Rd},L.Pairwise Rd.lt->(q∈yf r L↔q=r\/(q∈L/\¬q.same r))
 |[],_=>by simp[yf]
 |x::t,hp=>by
  obtain⟨h1,h2⟩:=List.pairwise_cons.1 hp
  have ih:=xa (r:=r) (q:=q) h2
  simp only[yf]
  split
  ·rename_i hc
   have hns:¬x.same r:=Rd.lt_ns hc
   rw[List.mem_cons,ih,List.mem_cons]
   constructor
   ·rintro(rfl|rfl|⟨h3,h4⟩)
    ·exact .inr ⟨.inl rfl,hns⟩
    ·exact .inl rfl
    ·exact .inr ⟨.inr h3,h4⟩
   ·rintro(rfl|⟨rfl|h3,h4⟩)
    ·exact .inr (.inl rfl)
    ·exact .inl rfl
    ·exact .inr (.inr ⟨h3,h4⟩)
  ·rename_i hc
   split
   ·rename_i hs
    rw[List.mem_cons,List.mem_cons]
    constructor
    ·rintro(rfl|h3)
     ·exact .inl rfl
     ·exact .inr ⟨.inr h3,fun h=>Rd.lt_irrefl x (Rd.lt_same (h1 q h3) (by exact⟨h.1.trans hs.1.symm,h.2.trans hs.2.symm⟩))⟩
    ·rintro(rfl|⟨rfl|h3,h4⟩)
     ·exact .inl rfl
     ·exact absurd hs h4
     ·exact .inr h3
   ·rename_i hs
    have hlt:r.lt x:=by
     rcases Rd.tri r x with h|h|h
     ·exact h
     ·exact absurd ⟨h.1.symm,h.2.symm⟩ hs
     ·exact absurd h hc
    rw[List.mem_cons]
    constructor
    ·rintro(rfl|h3)
     ·exact .inl rfl
     ·refine .inr ⟨h3,?_⟩
      rcases List.mem_cons.1 h3 with rfl|h3
      ·exact fun h=>Rd.lt_ns hlt (Rd.same_symm h)
      ·exact fun h=>Rd.lt_ns (Rd.lt_trans hlt (h1 q h3)) (Rd.same_symm h)
    ·rintro(rfl|⟨h3,h4⟩)
     ·exact .inl rfl
     ·exact .inr h3
theorem mO {r:Rd}:∀ {L:List Rd},L.Pairwise Rd.lt->(yf r L).Pairwise Rd.lt
 |[],_=>by simp[yf]
 |x::t,hp=>by
  obtain⟨h1,h2⟩:=List.pairwise_cons.1 hp
  simp only[yf]
  split
  ·rename_i hc
   refine List.pairwise_cons.2 ⟨fun q hq=>?_,mO h2⟩
   rcases(xa h2).1 hq with rfl|⟨h3,_⟩
   ·exact hc
   ·exact h1 q h3
  ·rename_i hc
   split
   ·rename_i hs
    exact List.pairwise_cons.2 ⟨fun q hq=>Rd.same_lt ⟨hs.1.symm,hs.2.symm⟩ (h1 q hq),h2⟩
   ·rename_i hs
    have hlt:r.lt x:=by
     rcases Rd.tri r x with h|h|h
     ·exact h
     ·exact absurd ⟨h.1.symm,h.2.symm⟩ hs
     ·exact absurd h hc
    refine List.pairwise_cons.2 ⟨fun q hq=>?_,hp⟩
    rcases List.mem_cons.1 hq with rfl|h3
    ·exact hlt
    ·exact Rd.lt_trans hlt (h1 q h3)
theorem GY (r:Rd):∀L:List Rd,(yf r L).length<=L.length+1
 |[]=>by simp[yf]
 |x::t=>by
  have:=GY r t
  simp only[yf]
  split
  ·simp;omega
  ·split<;>simp
theorem mP {r:Rd}:∀ {L:List Rd} {j:Nat},j<=L.length->(∀i q,i<j->L[i]? =some q->q.lt r)->(∀q,L[j]? =some q->¬q.lt r)->
  (∀q,L[j]? =some q->q.same r->yf r L=L.set j r)/\((∀q,L[j]? =some q->¬q.same r)->yf r L=L.take j++r::L.drop j)
 |[],j,hj,_,_=>by
  have:j=0:=by simpa using hj
  subst this
  exact⟨fun q h=>(by simp at h),fun _=>rfl⟩
 |x::t,0,_,_,h2=>by
  have hx:¬(x.l<r.l\/(x.l=r.l/\x.s<r.s)):=h2 x rfl
  refine⟨fun q h hs=>?_,fun h=>?_⟩
  ·cases h
   simp only[yf]
   rw[if_neg hx,if_pos (show x.l=r.l/\x.s=r.s from hs)]
   rfl
  ·simp only[yf]
   rw[if_neg hx,if_neg (show ¬(x.l=r.l/\x.s=r.s)from h x rfl)]
   rfl
 |x::t,j+1,hj,h1,h2=>by
  have hx:x.l<r.l\/(x.l=r.l/\x.s<r.s):=h1 0 x (by omega) rfl
  obtain⟨i1,i2⟩:=mP (r:=r) (L:=t) (j:=j) (by simpa using hj) (fun i q hi hq=>h1 (i+1) q (by omega) hq) (fun q hq=>h2 q hq)
  refine⟨fun q h hs=>?_,fun h=>?_⟩
  ·simp only[yf]
   rw[if_pos hx,i1 q h hs]
   rfl
  ·simp only[yf]
   rw[if_pos hx,i2 h]
   rfl
theorem KO:∀ {L M:List Rd},L.Pairwise Rd.lt->M.Pairwise Rd.lt->(∀q,q∈L↔q∈M)->L=M
 |[],[],_,_,_=>rfl
 |[],y::M,_,_,h=>absurd ((h y).2 (List.mem_cons_self)) (by simp)
 |x::L,[],_,_,h=>absurd ((h x).1 (List.mem_cons_self)) (by simp)
 |x::L,y::M,hL,hM,h=>by
  obtain⟨a1,a2⟩:=List.pairwise_cons.1 hL
  obtain⟨b1,b2⟩:=List.pairwise_cons.1 hM
  have hxy:x=y:=by
   rcases List.mem_cons.1 ((h x).1 List.mem_cons_self)with e|e
   ·exact e
   ·rcases List.mem_cons.1 ((h y).2 List.mem_cons_self)with e'|e'
    ·exact e'.symm
    ·exact absurd (Rd.lt_asymm (a1 y e') (b1 x e)) id
  subst hxy
  congr 1
  refine KO a2 b2 fun q=>?_
  constructor
  ·intro hq
   rcases List.mem_cons.1 ((h q).1 (List.mem_cons_of_mem _ hq))with e|e
   ·exact absurd (a1 q hq) (e▸Rd.lt_irrefl q)
   ·exact e
  ·intro hq
   rcases List.mem_cons.1 ((h q).2 (List.mem_cons_of_mem _ hq))with e|e
   ·exact absurd (b1 q hq) (e▸Rd.lt_irrefl q)
   ·exact e
theorem Y7 {L:List Rd} (hp:L.Pairwise Rd.lt) {a b:Rd} (ha:a∈L) (hb:b∈L) (hs:a.same b):a=b:=by
 induction L with
 |nil=>cases ha
 |cons x t ih=>
  obtain⟨h1,h2⟩:=List.pairwise_cons.1 hp
  rcases List.mem_cons.1 ha with e|e<;>rcases List.mem_cons.1 hb with e'|e'
  ·rw[e,e']
  ·exact absurd hs (Rd.lt_ns (e▸h1 b e'))
  ·exact absurd (Rd.same_symm hs) (Rd.lt_ns (e'▸h1 a e))
  ·exact ih h2 e e'
def Y8 (x:Nat):Rd:=⟨(qV x:Nat),(x/256%4:Nat),(x/536870912%4:Nat),vx x⟩
def Rd.Fine (r:Rd):Prop:=0<=r.l/\r.l<=255/\0<=r.s/\r.s<=3/\0<=r.st/\r.st<=3/\ -1000000<=r.d/\r.d<=1000000
theorem KP (x:Nat):(Y8 x).Fine:=by
 have h1:=yL x
 have h2: -1000000<=vx x/\vx x<=1000000:=by
  unfold vx
  split<;>omega
 refine⟨?_,?_,?_,?_,?_,?_,h2.1,h2.2⟩
 ·show 0<=((qV x:Nat):Int);omega
 ·show((qV x:Nat):Int)<=255;omega
 ·show 0<=((x/256%4:Nat):Int);omega
 ·show((x/256%4:Nat):Int)<=3;omega
 ·show 0<=((x/536870912%4:Nat):Int);omega
 ·show((x/536870912%4:Nat):Int)<=3;omega
def gath (f:Nat->Nat):Nat->List Rd
 |0=>[]
 |k+1=>if mY (f k)=true then yf (Y8 (f k)) (gath f k)else gath f k
def vK (f:Nat->Nat):Nat->Nat
 |0=>0
 |k+1=>if mY (f k)=true then vK f k else vK f k+1
theorem k7 (f:Nat->Nat):∀k,(gath f k).Pairwise Rd.lt
 |0=>List.Pairwise.nil
 |k+1=>by
  have ih:=k7 f k
  simp only[gath]
  split
  ·exact mO ih
  ·exact ih
theorem wA (f:Nat->Nat):∀k,(gath f k).length<=k
 |0=>Nat.le_refl _
 |k+1=>by
  have ih:=wA f k
  have h:=GY (Y8 (f k)) (gath f k)
  simp only[gath]
  split<;>omega
theorem mQ (f:Nat->Nat):∀k,∀r∈gath f k,r.Fine
 |0,r,h=>by cases h
 |k+1,r,h=>by
  have ih:=mQ f k
  simp only[gath]at h
  split at h
  ·rcases(xa (k7 f k)).1 h with rfl|⟨h1,_⟩
   ·exact KP _
   ·exact ih r h1
  ·exact ih r h
theorem mR (f:Nat->Nat):∀k,vK f k<=k
 |0=>Nat.le_refl _
 |k+1=>by
  have ih:=mR f k
  simp only[vK]
  split<;>omega
def Rd.val (r:Rd):Value:= .agg #[.int .i64 r.l,.int .i64 r.s,.int .i64 r.st,.int .i64 r.d]
def rdL (L:List Rd):List Value:=L.flatMap fun r=>[.int .i64 r.l,.int .i64 r.s,.int .i64 r.st,.int .i64 r.d]
theorem vy:∀L:List Rd,(rdL L).length=L.length*4
 |[]=>rfl
 |r::t=>by
  have:=vy t
  show(rdL t).length+1+1+1+1=(t.length+1)*4
  omega
theorem zeI (L:List Rd) (r:Rd):rdL (L++[r])=rdL L++[.int .i64 r.l,.int .i64 r.s,.int .i64 r.st,.int .i64 r.d]:=by simp[rdL]
theorem Jg (L M:List Rd):rdL (L++M)=rdL L++rdL M:=by simp[rdL]
theorem zbj:∀(L:List Rd) (i:Nat) (r:Rd),L[i]? =some r->(rdL L)[i*4]? =some (.int .i64 r.l)/\(rdL L)[i*4+1]? =some (.int .i64 r.s)/\(rdL L)[i*4+2]? =some (.int .i64 r.st)/\(rdL L)[i*4+3]? =some (.int .i64 r.d)
 |[],i,r,h=>by simp at h
 |x::t,0,r,h=>by
  cases h
  exact⟨rfl,rfl,rfl,rfl⟩
 |x::t,i+1,r,h=>by
  have ih:=zbj t i r h
  have e:(i+1)*4=i*4+1+1+1+1:=by omega
  rw[e]
  exact ih
theorem zbk:∀(L:List Rd) (i:Nat) (r:Rd),i<L.length->rdL (L.set i r)=((((rdL L).set (i*4) (.int .i64 r.l)).set (i*4+1) (.int .i64 r.s)).set (i*4+2) (.int .i64 r.st)).set (i*4+3) (.int .i64 r.d)
 |[],i,r,h=>absurd h (Nat.not_lt_zero _)
 |x::t,0,r,h=>rfl
 |x::t,i+1,r,h=>by
  have ih:=zbk t i r (by simpa using h)
  have e:(i+1)*4=i*4+1+1+1+1:=by omega
  rw[e]
  show rdL (x::t.set i r)=_
  have e2:∀M,rdL (x::M)= .int .i64 x.l:: .int .i64 x.s:: .int .i64 x.st:: .int .i64 x.d::rdL M:=fun _=>rfl
  rw[e2,e2,ih]
  rfl
theorem wB (L:List Rd) (i:Nat):rdL (L.take i)=(rdL L).take (i*4):=by
 induction L generalizing i with
 |nil=>simp[rdL]
 |cons x t ih=>
  cases i with
  |zero=>simp[rdL]
  |succ i=>
   have e:(i+1)*4=i*4+1+1+1+1:=by omega
   rw[e]
   have e2:∀M,rdL (x::M)= .int .i64 x.l:: .int .i64 x.s:: .int .i64 x.st:: .int .i64 x.d::rdL M:=fun _=>rfl
   rw[List.take_succ_cons,e2,e2,ih]
   rfl
theorem GZ (L:List Rd) (i:Nat):rdL (L.drop i)=(rdL L).drop (i*4):=by
 induction L generalizing i with
 |nil=>simp[rdL]
 |cons x t ih=>
  cases i with
  |zero=>simp
  |succ i=>
   have e:(i+1)*4=i*4+1+1+1+1:=by omega
   rw[e]
   have e2:∀M,rdL (x::M)= .int .i64 x.l:: .int .i64 x.s:: .int .i64 x.st:: .int .i64 x.d::rdL M:=fun _=>rfl
   rw[List.drop_succ_cons,e2,ih]
   rfl
theorem vz:∀(L:List Rd),∀u∈rdL L,u.oneCell'=true
 |[],u,h=>by cases h
 |x::t,u,h=>by
  have e2:∀M,rdL (x::M)= .int .i64 x.l:: .int .i64 x.s:: .int .i64 x.st:: .int .i64 x.d::rdL M:=fun _=>rfl
  rw[e2]at h
  simp only[List.mem_cons]at h
  rcases h with rfl|rfl|rfl|rfl|h
  ·rfl
  ·rfl
  ·rfl
  ·rfl
  ·exact vz t u h
end Go.Proofs.YtoakpnoajmngmaaGreatDoor
