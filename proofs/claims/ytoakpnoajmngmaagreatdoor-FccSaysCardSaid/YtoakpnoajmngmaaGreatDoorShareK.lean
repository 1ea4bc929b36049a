import Derived.Test.YtoakpnoajmngmaaGreatDoorFix
import Derived.Test.YtoakpnoajmngmaaGreatDoorWgPl
import Derived.Test.YtoakpnoajmngmaaGreatDoorSxR
import Derived.Test.YtoakpnoajmngmaaGreatDoorGuard
set_option linter.unusedVariables false
set_option linter.unusedSimpArgs false
namespace Go.Proofs.YtoakpnoajmngmaaGreatDoor
open Go.RowKit
abbrev Zr:=Option (Int × Int)
def vO:Zr->Value
 |none=> .iface 247 (.agg #[])
 |some (lo,hi)=> .iface 248 (.agg #[.int .i64 lo,.int .i64 hi])
def pat:Zr->Int->Int
 |none,_=>0
 |some (lo,hi),x=>zm x lo hi
def yO (ps:Nat->Zr) (x:Int):Nat->Int
 |0=>0
 |k+1=>yO ps x k+pat (ps k) x
def jt:Zr->Prop
 |none=>True
 |some (lo,hi)=> -1000<=lo/\lo<=1000/\ -1000<=hi/\hi<=1000
def qO (w:World) (b n:Nat) (ps:Nat->Zr):Prop:=
 b<w.heap.size/\∀i,i<n->w.cell? ⟨b,i,none⟩=some (vO (ps i))
theorem qO.below {w w':World} {b n:Nat} {ps:Nat->Zr} (h:qO w b n ps) (hb:Below w.heap.size w w'):qO w' b n ps:=
 ⟨Nat.lt_of_lt_of_le h.1 hb.size,fun i hi=>(hb.cell (p:=⟨b,_,none⟩) h.1).trans (h.2 i hi)⟩
theorem X7 {p:Zr} (h:jt p) (x:Int): -1000<=pat p x/\pat p x<=1000:=by
 unfold jt at h
 unfold pat
 split
 ·omega
 ·simp only at h
  unfold zm
  (repeat' split)<;>omega
theorem wW {ps:Nat->Zr} (h:∀k,jt (ps k)) (x:Int):∀n:Nat,-1000*n<=yO ps x n/\yO ps x n<=1000*n
 |0=>by simp[yO]
 |k+1=>by
  have h1:=wW h x k
  have h2:=X7 (h k) x
  simp only[yO]
  omega
set_option maxHeartbeats 400000 in
theorem zfd (x:Int) (w:World):Calls Tryz.prog 193 #[.agg #[],.int .i64 x] w fun e w'=>e= .returned (.int .i64 0)/\Below w.heap.size w w':=by
 go_enter Tryz.func193,Tryz.ntmps193
 go_wp2
 go_ret
 exact⟨rfl,gW⟩
set_option maxHeartbeats 400000 in
theorem zfe (lo hi x:Int) (w:World):Calls Tryz.prog 194 #[.agg #[.int .i64 lo,.int .i64 hi],.int .i64 x] w fun e w'=>e= .returned (.int .i64 (pat (some (lo,hi)) x))/\Below w.heap.size w w':=by
 go_enter Tryz.func194,Tryz.ntmps194
 go_wp2_with (go_at_call 80;((with_reducible refine(kL _ _ _ _).mono ?_);rintro e w' ⟨rfl,rfl⟩))
 go_ret
 exact⟨rfl,gW⟩
theorem zl0 (n:Nat) (v:Value) (w:World):(method (n+1) 247 v "At").run Tryz.prog w= .ok (193,v) w:=Sx.run_method (by kernel_rfl) n v w
theorem zl1 (n:Nat) (v:Value) (w:World):(method (n+1) 248 v "At").run Tryz.prog w= .ok (194,v) w:=Sx.run_method (by kernel_rfl) n v w
theorem zl2 (args:Array Value) (w:World):(callFunc 193 args).run Tryz.prog w= .ok (.enter 193 args) w:=Sx.run_callFunc (by kernel_rfl) args w
theorem zl3 (args:Array Value) (w:World):(callFunc 194 args).run Tryz.prog w= .ok (.enter 194 args) w:=Sx.run_callFunc (by kernel_rfl) args w
set_option maxRecDepth 100000 in
set_option maxHeartbeats 400000 in
theorem Yh (b c n:Nat) (ps:Nat->Zr) (x:Int) (w:World) (hn:n<=1000) (hf:∀k,jt (ps k)) (hc:qO w b n ps):
  Calls Tryz.prog 116 #[.slice (some ⟨b,0,none⟩) n c,.int .i64 x] w fun e w'=>e= .returned (.int .i64 (yO ps x n))/\Below w.heap.size w w':=by
 have HC:=Lib.hid hc
 have HF:=Lib.hid hf
 have hbl:=hc.1
 clear hc hf
 go_enter Tryz.func116,Tryz.ntmps116
 go_wp2
 go_loopw [5,10] (fun s i wr=>∃k:Nat,k<=n/\i= .int .i64 k/\s= .int .i64 (yO ps x k)/\Below w.heap.size w wr) (fun _ i _=>n-(intOf i).toNat)
 case atStart=>exact⟨0,Nat.zero_le _,rfl,rfl,Below.refl _ _⟩
 case round=>
  obtain⟨k,hk,rfl,rfl,hbw⟩:=hrel
  by_cases hlt:k<n
  ·have hcc:=(HC.out.below hbw).2 k hlt
   have hlw:b<wr.heap.size:=Nat.lt_of_lt_of_le hbl hbw.size
   have hsz:=hbw.size
   have hbd:=wW HF.out x k
   have hpd:=X7 (HF.out k) x
   have hp:yO ps x (k+1)=yO ps x k+pat (ps k) x:=rfl
   have HP:=Lib.hid hp
   clear hp
   generalize ps k=p at*
   cases p with
   |none=>
    simp only[vO]at hcc
    go_wp2_with fail
    have hz:pat none x=0:=rfl
    rw[zl0]
    simp only[Result.andThen]
    rw[zl2]
    go_wp2_with fail
    refine(zfd _ _).mono ?_
    rintro e w1 ⟨rfl,hb⟩
    go_wp2_with fail
    all_goals
     go_roundw
     case rel=>exact⟨k+1,by omega,by go_num,by first|(rw[HP.out];done)|(rw[HP.out];go_num),gW⟩
     case measure=>simp[intOf];omega
   |some q=>
    obtain⟨lo,hi⟩:=q
    simp only[vO]at hcc
    go_wp2_with fail
    rw[zl1]
    simp only[Result.andThen]
    rw[zl3]
    go_wp2_with fail
    refine(zfe _ _ _ _).mono ?_
    rintro e w1 ⟨rfl,hb⟩
    go_wp2_with fail
    all_goals
     go_roundw
     case rel=>exact⟨k+1,by omega,by go_num,by first|(rw[HP.out];done)|(rw[HP.out];go_num),gW⟩
     case measure=>simp[intOf];omega
  ·have hkn:k=n:=by omega
   subst hkn
   go_wp2
   go_ret
   exact⟨rfl,hbw⟩
set_option maxHeartbeats 400000 in
theorem zl4 (m b c n:Nat) (ps:Nat->Zr) (x:Int) (w:World) (hn:n<=1000) (hf:∀k,jt (ps k)) (hc:qO w b n ps) (hm:w.cell? ⟨m,0,none⟩=some (.slice (some ⟨b,0,none⟩) n c)):
  Calls Tryz.prog 118 #[.int .i64 x,.pointer (some ⟨m,0,none⟩)] w fun e w'=>e= .returned (.int .i64 (yO ps x n))/\Below w.heap.size w w':=by
 go_enter Tryz.func118,Tryz.ntmps118
 go_wp2_with (go_at_call 116;((with_reducible refine(Yh _ _ _ _ _ _ hn hf hc).mono ?_);rintro e w' ⟨rfl,hb⟩;obtain⟨hcb,hfb⟩:=W6 hb))
 go_ret
 exact⟨rfl,gW⟩
theorem zc2 (p:Zr) {x y:Int} (h:x<=y):pat p x<=pat p y:=by
 unfold pat
 split
 ·omega
 ·unfold zm
  (repeat' split)<;>omega
theorem JJ (ps:Nat->Zr) {x y:Int} (h:x<=y):∀n:Nat,yO ps x n<=yO ps y n
 |0=>by simp[yO]
 |k+1=>by
  have h1:=JJ ps h k
  have h2:=zc2 (ps k) h
  simp only[yO]
  omega
def Qv (tot:Int->Int) (sum lo:Int):Nat->Int
 |0=>lo
 |k+1=>if tot (lo+(k+1))<=sum then lo+(k+1)else Qv tot sum lo k
def zbo (tot:Int->Int) (sum most:Int):Int:=Qv tot sum (-most) (2*most).toNat
theorem X8 {tot:Int->Int} (hm:∀x y,x<=y->tot x<=tot y) {sum lo L:Int}:∀k:Nat,lo<=L->L<=lo+k->(L=lo\/tot L<=sum)->(L=lo+k\/sum<tot (L+1))->Qv tot sum lo k=L
 |0,h1,h2,_,_=>by simp only[Qv];omega
 |k+1,h1,h2,h3,h4=>by
  simp only[Qv]
  by_cases he:L=lo+((k:Int)+1)
  ·subst he
   rw[if_pos (by rcases h3 with h|h;omega;exact h)]
  ·have h5:sum<tot (L+1):=by rcases h4 with h|h;(exact absurd h (by simpa using he));exact h
   have:=hm (L+1) (lo+((k:Int)+1)) (by push_cast at h2;omega)
   rw[if_neg (by omega)]
   exact X8 hm k h1 (by push_cast at h2;omega) h3 (.inr h5)
theorem MP {tot:Int->Int} (hm:∀x y,x<=y->tot x<=tot y) {sum most L:Int} (h0:0<=most) (h1: -most<=L) (h2:L<=most) (h3:L= -most\/tot L<=sum) (h4:L=most\/sum<tot (L+1)):zbo tot sum most=L:=
 X8 hm _ h1 (by omega) h3 (by rcases h4 with h|h;(exact .inl (by omega));exact .inr h)
set_option maxRecDepth 100000 in
set_option maxHeartbeats 400000 in
theorem zhr (m b c n:Nat) (ps:Nat->Zr) (sum most:Int) (w:World) (hn:n<=1000) (h0:0<=most) (h1:most<=1000) (hf:∀k,jt (ps k)) (hc:qO w b n ps) (hl:m<w.heap.size) (hm:w.cell? ⟨m,0,none⟩=some (.slice (some ⟨b,0,none⟩) n c)):
  Calls Tryz.prog 117 #[.int .i64 sum,.int .i64 most,.func (.func 118) #[] #[.pointer (some ⟨m,0,none⟩)]] w fun e w'=>e= .returned (.int .i64 (zbo (fun x=>yO ps x n) sum most))/\Below w.heap.size w w':=by
 have HC:=Lib.hid hc
 have HM:=Lib.hid hm
 clear hc hm
 have HMo:=Lib.hid (fun x y (h:x<=y)=>JJ ps h n)
 go_enter Tryz.func117,Tryz.ntmps117
 go_wp2
 go_loopw [7,8] (fun s i wr=>∃x y:Int,s= .int .i64 x/\i= .int .i64 y/\ -most<=x/\x<=y/\y<=most/\Hid (x= -most\/yO ps x n<=sum)/\Hid (y=most\/sum<yO ps (y+1) n)/\Below w.heap.size w wr) (fun a b _=>(intOf b-intOf a).toNat)
 case atStart=>exact⟨-most,most,by go_num,rfl,by omega,by omega,by omega,.inl rfl,.inl rfl,Below.refl _ _⟩
 case round=>
  obtain⟨x,y,rfl,rfl,g1,g2,g3,g4,g5,hbw⟩:=hrel
  by_cases hlt:x<y
  ·have hsz:=hbw.size
   have hcw:=HC.out.below hbw
   have hmw:wr.cell? ⟨m,0,none⟩=some (.slice (some ⟨b,0,none⟩) n c):=(hbw.cell (p:=⟨m,_,none⟩) hl).trans HM.out
   have hmono:=HMo.out
   have k1:x<(x+y+1)/2:=by omega
   have k2:(x+y+1)/2<=y:=by omega
   clear hmono
   by_cases hle:yO ps ((x+y+1)/2) n<=sum
   ·go_wp2_with (go_at_call 118;((with_reducible refine(zl4 _ _ _ _ _ _ _ hn hf hcw hmw).mono ?_);rintro e w' ⟨rfl,hb⟩;obtain⟨hcb,hfb⟩:=W6 hb))
    all_goals
     go_roundw
     case rel=>exact⟨_,_,rfl,rfl,by omega,by omega,by omega,.inr hle,g5,gW⟩
     case measure=>simp[intOf];omega
   ·go_wp2_with (go_at_call 118;((with_reducible refine(zl4 _ _ _ _ _ _ _ hn hf hcw hmw).mono ?_);rintro e w' ⟨rfl,hb⟩;obtain⟨hcb,hfb⟩:=W6 hb))
    all_goals
     go_roundw
     case rel=>exact⟨_,_,rfl,rfl,by omega,by omega,by omega,g4,.inr (by rw[Int.sub_add_cancel];omega),gW⟩
     case measure=>simp[intOf];omega
  ·have hxy:x=y:=by omega
   subst hxy
   have:=MP HMo.out h0 g1 g3 g4.out g5.out
   go_wp2_with fail
   go_ret
   exact⟨rfl,hbw⟩
end Go.Proofs.YtoakpnoajmngmaaGreatDoor
