import Derived.Shelf.SlSortCmp.WholeK
import Derived.Shelf.SlicesQ.Reverse
import Derived.Test.YtoakpnoajmngmaaGreatDoorWgPl
set_option linter.unusedVariables false
set_option linter.unusedSimpArgs false
namespace Go.Proofs.YtoakpnoajmngmaaGreatDoor
open Go.Shelf Go.RowKit Go.Lib Go.Sort
def Wd:Go.Shelf.Ren:=⟨fun|6=>72|15=>108|14=>107|28=>144|29=>145|20=>136|21=>137|22=>138|23=>139|24=>140|25=>141|26=>142|27=>143|46=>158|47=>159|48=>160|49=>161|50=>162|57=>168|n=>n,fun|22=>82|24=>136|25=>163|3=>3|39=>188|0=>0|53=>101|55=>243|4=>4|46=>235|45=>234|50=>239|5=>5|9=>9|66=>264|70=>268|76=>271|77=>272|n=>n,fun|n=>n⟩
theorem zm1:Go.Proofs.SlLaysF0.n6 Tryz.prog Wd:= {
 mixed:=by kernel_rfl
 f6:=⟨Tryz.f72.name,by decide,Tryz.func72.trans (congrArg some (by kernel_rfl))⟩
 f14:=⟨Tryz.f107.name,by decide,Tryz.func107.trans (congrArg some (by kernel_rfl))⟩
 f15:=Tryz.func108.trans (congrArg some (by kernel_rfl))
 f20:=⟨Tryz.f136.name,by decide,Tryz.func136.trans (congrArg some (by kernel_rfl))⟩
 f21:=⟨Tryz.f137.name,by decide,Tryz.func137.trans (congrArg some (by kernel_rfl))⟩
 f22:=⟨Tryz.f138.name,by decide,Tryz.func138.trans (congrArg some (by kernel_rfl))⟩
 f23:=⟨Tryz.f139.name,by decide,Tryz.func139.trans (congrArg some (by kernel_rfl))⟩
 f24:=⟨Tryz.f140.name,by decide,Tryz.func140.trans (congrArg some (by kernel_rfl))⟩
 f25:=⟨Tryz.f141.name,by decide,Tryz.func141.trans (congrArg some (by kernel_rfl))⟩
 f26:=⟨Tryz.f142.name,by decide,Tryz.func142.trans (congrArg some (by kernel_rfl))⟩
 f27:=⟨Tryz.f143.name,by decide,Tryz.func143.trans (congrArg some (by kernel_rfl))⟩
 f28:=Tryz.func144.trans (congrArg some (by kernel_rfl))
 f29:=Tryz.func145.trans (congrArg some (by kernel_rfl))
 f46:=⟨Tryz.f158.name,by decide,Tryz.func158.trans (congrArg some (by kernel_rfl))⟩
 f47:=Tryz.func159.trans (congrArg some (by kernel_rfl))
 f48:=Tryz.func160.trans (congrArg some (by kernel_rfl))
 f49:=⟨Tryz.f161.name,by decide,Tryz.func161.trans (congrArg some (by kernel_rfl))⟩
 f50:=⟨Tryz.f162.name,by decide,Tryz.func162.trans (congrArg some (by kernel_rfl))⟩
 f57:=⟨Tryz.f168.name,by decide,Tryz.func168.trans (congrArg some (by kernel_rfl))⟩
 t0:=Tryz.underlying0
 a0:=Tryz.isAgg0
 z0:=Tryz.sizeOf0
 v0:=Tryz.zeroValue0
 t3:=Tryz.underlying3
 a3:=Tryz.isAgg3
 z3:=Tryz.sizeOf3
 v3:=Tryz.zeroValue3
 t4:=Tryz.underlying4
 a4:=Tryz.isAgg4
 z4:=Tryz.sizeOf4
 v4:=Tryz.zeroValue4
 t5:=Tryz.underlying5
 a5:=Tryz.isAgg5
 z5:=Tryz.sizeOf5
 v5:=Tryz.zeroValue5
 t9:=Tryz.underlying9
 a9:=Tryz.isAgg9
 z9:=Tryz.sizeOf9
 v9:=Tryz.zeroValue9
 t22:=Tryz.underlying82
 a22:=Tryz.isAgg82
 z22:=Tryz.sizeOf82
 v22:=Tryz.zeroValue82
 t25:=Tryz.underlying163
 a25:=Tryz.isAgg163
 z25:=Tryz.sizeOf163
 v25:=Tryz.zeroValue163
 t39:=Tryz.underlying188
 a39:=Tryz.isAgg188
 z39:=Tryz.sizeOf188
 v39:=Tryz.zeroValue188
 t45:=Tryz.underlying234
 a45:=Tryz.isAgg234
 z45:=Tryz.sizeOf234
 v45:=Tryz.zeroValue234
 t46:=Tryz.underlying235
 a46:=Tryz.isAgg235
 z46:=Tryz.sizeOf235
 v46:=Tryz.zeroValue235
 t50:=Tryz.underlying239
 a50:=Tryz.isAgg239
 z50:=Tryz.sizeOf239
 v50:=Tryz.zeroValue239
 t53:=Tryz.underlying101
 a53:=Tryz.isAgg101
 z53:=Tryz.sizeOf101
 v53:=Tryz.zeroValue101
 t55:=Tryz.underlying243
 a55:=Tryz.isAgg243
 z55:=Tryz.sizeOf243
 v55:=Tryz.zeroValue243
 t66:=Tryz.underlying264
 a66:=Tryz.isAgg264
 z66:=Tryz.sizeOf264
 v66:=Tryz.zeroValue264
 t70:=Tryz.underlying268
 a70:=Tryz.isAgg268
 z70:=Tryz.sizeOf268
 v70:=Tryz.zeroValue268
 t76:=Tryz.underlying271
 a76:=Tryz.isAgg271
 z76:=Tryz.sizeOf271
 v76:=Tryz.zeroValue271
 t77:=Tryz.underlying272
 a77:=Tryz.isAgg272
 z77:=Tryz.sizeOf272
 v77:=Tryz.zeroValue272}
abbrev Rf:= {r:Rd//r.Fine}
instance:Inhabited Rf:=⟨⟨⟨0,0,0,0⟩,by unfold Rd.Fine;simp⟩⟩
def vX (x:Rf):List Value:=[.int .i64 x.1.l,.int .i64 x.1.s,.int .i64 x.1.st,.int .i64 x.1.d]
def KQ (x y:Rf):Int:=(x.1.l-y.1.l)*4+x.1.s-y.1.s
theorem KR (x y:Rf):ltOf KQ x y=true↔x.1.lt y.1:=by
 obtain⟨x,hx⟩:=x
 obtain⟨y,hy⟩:=y
 obtain⟨a1,a2,a3,a4,_⟩:=hx
 obtain⟨b1,b2,b3,b4,_⟩:=hy
 unfold ltOf KQ Rd.lt
 rw[decide_eq_true_iff]
 show(x.l-y.l)*4+x.s-y.s<0↔x.l<y.l\/(x.l=y.l/\x.s<y.s)
 omega
theorem zm2:SWO (ltOf KQ) where
 irrefl x:=by
  cases h:ltOf KQ x x
  ·rfl
  ·exact absurd ((KR x x).1 h) (Rd.lt_irrefl _)
 trans x y z h1 h2:=(KR x z).2 (Rd.lt_trans ((KR x y).1 h1) ((KR y z).1 h2))
 ntrans x y z h1 h2:=by
  cases h:ltOf KQ x z
  ·rfl
  ·have h3:=(KR x z).1 h
   have n1:¬x.1.lt y.1:=fun q=>by rw[(KR x y).2 q]at h1;cases h1
   have n2:¬y.1.lt z.1:=fun q=>by rw[(KR y z).2 q]at h2;cases h2
   exfalso
   unfold Rd.lt at*
   omega
set_option maxHeartbeats 1000000 in
theorem zbl (x y:Rd) (hx:x.Fine) (hy:y.Fine) (W:World):Calls Tryz.prog 73 #[.agg #[.int .i64 x.l,.int .i64 x.s,.int .i64 x.st,.int .i64 x.d],.agg #[.int .i64 y.l,.int .i64 y.s,.int .i64 y.st,.int .i64 y.d]] W fun e w'=>e= .returned (.int .i64 ((x.l-y.l)*4+x.s-y.s))/\∃q os',w'=grow (W.drewN q) os':=by
 obtain⟨a1,a2,a3,a4,_⟩:=hx
 obtain⟨b1,b2,b3,b4,_⟩:=hy
 obtain⟨xl,xs,xt,xd⟩:=x
 obtain⟨yl,ys,yt,yd⟩:=y
 simp only at a1 a2 a3 a4 b1 b2 b3 b4 ⊢
 have h1:IntKind.wrap .i64 (xl-yl)=xl-yl:=IntWalk.i64_in _ ⟨by omega,by omega⟩
 have h2:IntKind.wrap .i64 ((xl-yl)*4)=(xl-yl)*4:=IntWalk.i64_in _ ⟨by omega,by omega⟩
 have h3:IntKind.wrap .i64 ((xl-yl)*4+xs)=(xl-yl)*4+xs:=IntWalk.i64_in _ ⟨by omega,by omega⟩
 have h4:IntKind.wrap .i64 ((xl-yl)*4+xs-ys)=(xl-yl)*4+xs-ys:=IntWalk.i64_in _ ⟨by omega,by omega⟩
 go_enter Tryz.func73,Tryz.ntmps73
 go_wp2
 go_ret
 exact⟨rfl,0,_,by rw[alloc_eq_grow,alloc_eq_grow,grow_grow];rfl⟩
theorem We (blk cap:Nat) (d:Array Rf) (w:World) (hH:HoldsK vX 4 w blk 0 d) (hblk:blk<w.heap.size) (hsz:d.size<4611686018427387904):
  Calls Tryz.prog 72 #[.slice (some ⟨blk,0,none⟩) d.size cap,.func (.func 73) #[] #[]] w fun e w'=>e= .returned (.tuple #[])/\∃d' n os,PermIn 0 d.size d d'/\SortedIn (ltOf KQ) 0 d.size d'/\w'=sortWorldK vX 4 w blk 0 n d' os:=
 AnyQ.slices_SortFunc zm1 4 (fun w=>by kernel_rfl) (fun w=>by kernel_rfl) vX (fun _=>rfl) (fun x v hv=>by simp[vX]at hv;rcases hv with rfl|rfl|rfl|rfl<;>rfl) KQ zm2 73 #[] blk 0 cap d w
  (enters_of Tryz.func73 (by kernel_rfl) rfl) (fun _ _ _ _ x y=>zbl x.1 y.1 x.2 y.2 _) hH hblk hsz
end Go.Proofs.YtoakpnoajmngmaaGreatDoor
