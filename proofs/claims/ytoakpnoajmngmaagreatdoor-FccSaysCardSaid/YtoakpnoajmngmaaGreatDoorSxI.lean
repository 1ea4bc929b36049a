import Derived.Calls
import Derived.IntWalk
import Derived.KernelRfl
import Derived.Below
import Derived.Laws.World
import Derived.Laws.AppendOwn
import Derived.Laws.Cells
import Derived.Laws.Entries
import Derived.ChangeKeysEq
import Derived.Laws.CopyRow
import Derived.Laws.Rows
set_option linter.unusedVariables false
set_option linter.unusedSimpArgs false
namespace Go.Proofs.YtoakpnoajmngmaaGreatDoor.Sx
inductive UOp where
 |not|wrap (k:IntKind)
 deriving DecidableEq,Repr,Inhabited
inductive BOp where
 |add|sub|mul|quo|rem|div|mod|min|max|lt|le|eq|and|or|app
 deriving DecidableEq,Repr,Inhabited
inductive E where
 |v (n:Nat)|bv (n:Nat)|c (z:Int)|bc (b:Bool)
 |un (o:UOp) (a:E)|bin (o:BOp) (a b:E)|ite (d a b:E)
 |ap (k:Nat) (a:E)|nil|cons (a b:E)
 deriving Repr,Inhabited
structure Env where
 iv:Nat->Int
 bv:Nat->Bool
 fn:Nat->List Int->Int
 fb:Nat->List Int->Bool
 et:TypeId
 ov:Nat->Option Addr × Nat
 fl:Nat->List Int->List Int:=fun _ _=>[]
 mv:Nat->List Value:=fun _=>[]
 es:Nat->Int->Option Addr × Nat × Nat:=fun _ _=>(none,0,0)
 mn:Nat->Int->List Value:=fun _ _=>[]
 ol:Nat->Nat:=fun _=>0
mutual
def E.i (ρ:Env):E->Int
 | .v n=>ρ.iv n
 | .c z=>z
 | .un (.wrap k) a=>k.wrap (a.i ρ)
 | .bin .add a b=>a.i ρ+b.i ρ
 | .bin .sub a b=>a.i ρ-b.i ρ
 | .bin .mul a b=>a.i ρ*b.i ρ
 | .bin .quo a b=>(a.i ρ).tdiv (b.i ρ)
 | .bin .rem a b=>(a.i ρ).tmod (b.i ρ)
 | .bin .div a b=>a.i ρ/b.i ρ
 | .bin .mod a b=>a.i ρ%b.i ρ
 | .bin .min a b=>min (a.i ρ) (b.i ρ)
 | .bin .max a b=>max (a.i ρ) (b.i ρ)
 | .ite d a b=>if d.b ρ=true then a.i ρ else b.i ρ
 | .ap k a=>ρ.fn k (a.l ρ)
 |_=>0
def E.b (ρ:Env):E->Bool
 | .bv n=>ρ.bv n
 | .bc b=>b
 | .un .not a=> !(a.b ρ)
 | .bin .lt a b=>decide (a.i ρ<b.i ρ)
 | .bin .le a b=>decide (a.i ρ<=b.i ρ)
 | .bin .eq a b=>decide (a.i ρ=b.i ρ)
 | .bin .and a b=>a.b ρ&&b.b ρ
 | .bin .or a b=>a.b ρ||b.b ρ
 | .ite d a b=>if d.b ρ=true then a.b ρ else b.b ρ
 | .ap k a=>ρ.fb k (a.l ρ)
 |_=>false
def E.l (ρ:Env):E->List Int
 | .cons a b=>a.i ρ::b.l ρ
 | .ap k a=>ρ.fl k (a.l ρ)
 | .bin .app a b=>a.l ρ++b.l ρ
 | .ite d a b=>if d.b ρ=true then a.l ρ else b.l ρ
 |_=>[]
end
def E.same:E->E->Bool
 | .v m,.v n=>m==n
 | .bv m,.bv n=>m==n
 | .c m,.c n=>m==n
 | .bc m,.bc n=>m==n
 | .un o a,.un p b=>decide (o=p)&&a.same b
 | .bin o a b,.bin p a' b'=>decide (o=p)&&a.same a'&&b.same b'
 | .ite a b d,.ite a' b' d'=>a.same a'&&b.same b'&&d.same d'
 | .ap k a,.ap j b=>k==j&&a.same b
 | .nil,.nil=>true
 | .cons a b,.cons a' b'=>a.same a'&&b.same b'
 |_,_=>false
theorem E.same_eq:∀ {x y:E},x.same y=true->x=y:=by
 intro x
 induction x with
 |v m=>intro y h;cases y<;>simp[E.same]at h;rw[h]
 |bv m=>intro y h;cases y<;>simp[E.same]at h;rw[h]
 |c m=>intro y h;cases y<;>simp[E.same]at h;rw[h]
 |bc m=>intro y h;cases y<;>simp[E.same]at h;rw[h]
 |un o a iha=>intro y h;cases y<;>simp[E.same]at h;rw[h.1,iha h.2]
 |bin o a b iha ihb=>intro y h;cases y<;>simp[E.same]at h;rw[h.1.1,iha h.1.2,ihb h.2]
 |ite a b c iha ihb ihc=>intro y h;cases y<;>simp[E.same]at h;rw[iha h.1.1,ihb h.1.2,ihc h.2]
 |ap k a iha=>intro y h;cases y<;>simp[E.same]at h;rw[h.1,iha h.2]
 |nil=>intro y h;cases y<;>simp[E.same]at h;rfl
 |cons a b iha ihb=>intro y h;cases y<;>simp[E.same]at h;rw[iha h.1,ihb h.2]
def jz:E->E
 | .bc b=> .bc (!b)
 | .un .not a=>a
 | .bin .lt a b=> .bin .le b a
 | .bin .le a b=> .bin .lt b a
 |a=> .un .not a
theorem q7 (ρ:Env) (a:E):(jz a).b ρ= !(a.b ρ):=by
 unfold jz
 split<;>(try simp[E.b])
 ·rename_i a b;by_cases h:a.i ρ<b.i ρ<;>simp[h]<;>omega
 ·rename_i a b;by_cases h:a.i ρ<=b.i ρ<;>simp[h]<;>omega
def Vz (a b:E):E:=
 match a,b with
 | .bc true,b=>b
 | .bc false,_=> .bc false
 |a,.bc true=>a
 |_,.bc false=> .bc false
 |a,b=>if a.same b then a else .bin .and a b
theorem Yl (ρ:Env) (a b:E):(Vz a b).b ρ=(a.b ρ&&b.b ρ):=by
 unfold Vz
 split<;>(try simp[E.b])
 split
 ·rename_i h;rw[E.same_eq h];simp
 ·rfl
def zni (a b:E):E:=
 match a,b with
 | .bc true,_=> .bc true
 | .bc false,b=>b
 |_,.bc true=> .bc true
 |a,.bc false=>a
 |a,b=>if a.same b then a else .bin .or a b
theorem zme (ρ:Env) (a b:E):(zni a b).b ρ=(a.b ρ||b.b ρ):=by
 unfold zni
 split<;>(try simp[E.b])
 split
 ·rename_i h;rw[E.same_eq h];simp
 ·rfl
def Gi (d a b:E):E:=
 if a.same b then a else
 match a,b with
 | .bc true,b=>zni d b
 | .bc false,b=>Vz (jz d) b
 |a,.bc true=>zni (jz d) a
 |a,.bc false=>Vz d a
 |a,b=> .ite d a b
theorem Qy (ρ:Env) (d a b:E):(Gi d a b).b ρ=if d.b ρ=true then a.b ρ else b.b ρ:=by
 unfold Gi
 split
 ·rename_i h;rw[E.same_eq h];simp
 ·split<;>simp[E.b,zme,Yl,q7]<;>cases d.b ρ<;>simp
def zdo (a b:E):E:=
 match a,b with
 | .c x,.c y=> .c (x+y)
 | .bin .add a (.c x),.c y=>if x+y=0 then a else .bin .add a (.c (x+y))
 | .bin .sub a (.c x),.c y=>if x=y then a else .bin .sub a (.c (x-y))
 |a,.c y=>if y=0 then a else .bin .add a (.c y)
 | .c x,b=>if x=0 then b else .bin .add (.c x) b
 |a,b=> .bin .add a b
theorem Ym (ρ:Env) (a b:E):(zdo a b).i ρ=a.i ρ+b.i ρ:=by
 unfold zdo
 split<;>(try split)<;>simp[E.i]<;>omega
def zdp (a b:E):E:=
 match a,b with
 | .c x,.c y=> .c (x-y)
 | .bin .add a (.c x),.c y=>if x=y then a else .bin .add a (.c (x-y))
 | .bin .sub a (.c x),.c y=> .bin .sub a (.c (x+y))
 |a,.c y=>if y=0 then a else .bin .sub a (.c y)
 |a,b=>if a.same b then .c 0 else .bin .sub a b
theorem Yn (ρ:Env) (a b:E):(zdp a b).i ρ=a.i ρ-b.i ρ:=by
 unfold zdp
 split<;>(try split)<;>simp[E.i]<;>first|omega|(rename_i h;rw[E.same_eq h];omega)
def zdq (a b:E):E:=
 match a,b with
 | .c x,.c y=> .c (x*y)
 |a,.c y=>if y=1 then a else if y=0 then .c 0 else .bin .mul a (.c y)
 | .c x,b=>if x=1 then b else if x=0 then .c 0 else .bin .mul (.c x) b
 |a,b=> .bin .mul a b
theorem Yo (ρ:Env) (a b:E):(zdq a b).i ρ=a.i ρ*b.i ρ:=by
 unfold zdq
 split<;>(try split)<;>(try split)<;>simp_all[E.i]
def zhA (a b:E):E:=
 match a,b with
 | .c x,.c y=> .bc (decide (x<y))
 |a,b=>if a.same b then .bc false else .bin .lt a b
theorem zfg (ρ:Env) (a b:E):(zhA a b).b ρ=decide (a.i ρ<b.i ρ):=by
 unfold zhA
 split
 ·rfl
 ·split
  ·rename_i h;rw[E.same_eq h];simp[E.b]
  ·rfl
def zoU (a b:E):E:=
 match a,b with
 | .c x,.c y=> .bc (decide (x<=y))
 |a,b=>if a.same b then .bc true else .bin .le a b
theorem zmf (ρ:Env) (a b:E):(zoU a b).b ρ=decide (a.i ρ<=b.i ρ):=by
 unfold zoU
 split
 ·rfl
 ·split
  ·rename_i h;rw[E.same_eq h];simp[E.b]
  ·rfl
def znj (a b:E):E:=
 match a,b with
 | .c x,.c y=> .bc (decide (x=y))
 |a,b=>if a.same b then .bc true else .bin .eq a b
theorem zfh (ρ:Env) (a b:E):(znj a b).b ρ=decide (a.i ρ=b.i ρ):=by
 unfold znj
 split
 ·rfl
 ·split
  ·rename_i h;rw[E.same_eq h];simp[E.b]
  ·rfl
def MU (a b:E):E:=if a.same b then .bc true else Gi a b (jz b)
theorem Yp (ρ:Env) (a b:E):(MU a b).b ρ=(a.b ρ==b.b ρ):=by
 unfold MU
 split
 ·rename_i h;rw[E.same_eq h];simp[E.b]
 ·rw[Qy,q7];cases a.b ρ<;>cases b.b ρ<;>rfl
structure R where
 e:E
 lo:Int
 hi:Int
 deriving Repr,Inhabited
def R.ok (ρ:Env) (x:R):Prop:=x.lo<=x.e.i ρ/\x.e.i ρ<=x.hi
def ziI:IntKind->Int
 | .i8=> -128| .i16=> -32768| .i32=> -2147483648| .i64=> -9223372036854775808|_=>0
def ziJ:IntKind->Int
 | .i8=>127| .i16=>32767| .i32=>2147483647| .i64=>9223372036854775807
 | .u8=>255| .u16=>65535| .u32=>4294967295| .u64=>18446744073709551615
theorem zhB (k:IntKind) (n:Int) (h1:ziI k<=n) (h2:n<=ziJ k):k.wrap n=n:=by
 cases k<;>simp only[ziI,ziJ]at h1 h2
 ·exact IntWalk.i8_in n ⟨h1,h2⟩
 ·exact IntWalk.i16_in n ⟨h1,h2⟩
 ·exact IntWalk.i32_in n ⟨h1,h2⟩
 ·exact IntWalk.i64_in n ⟨h1,h2⟩
 ·exact IntWalk.u8_in n ⟨h1,h2⟩
 ·exact IntWalk.u16_in n ⟨h1,h2⟩
 ·exact IntWalk.u32_in n ⟨h1,h2⟩
 ·exact IntWalk.u64_in n ⟨h1,h2⟩
end Go.Proofs.YtoakpnoajmngmaaGreatDoor.Sx
namespace Go.Proofs.YtoakpnoajmngmaaGreatDoor.Sx
theorem zhC (k:IntKind) (n:Int):ziI k<=k.wrap n/\k.wrap n<=ziJ k:=by
 cases k<;>simp only[ziI,ziJ,IntKind.wrap,IntKind.signed,IntKind.bits]<;>(constructor<;>(simp;try split)<;>omega)
def fit (k:IntKind) (e:E) (lo hi:Int):R:=
 if ziI k<=lo/\hi<=ziJ k then(if lo=hi then⟨.c lo,lo,hi⟩else⟨e,lo,hi⟩)else⟨.un (.wrap k) e,ziI k,ziJ k⟩
theorem wY (ρ:Env) (k:IntKind) (e:E) (lo hi:Int) (h1:lo<=e.i ρ) (h2:e.i ρ<=hi):(fit k e lo hi).ok ρ/\(fit k e lo hi).e.i ρ=k.wrap (e.i ρ):=by
 unfold fit
 split
 ·rename_i h
  rw[zhB k _ (by omega) (by omega)]
  split
  ·rename_i hl;subst hl
   exact⟨⟨Int.le_refl _,Int.le_refl _⟩,by show lo=_;omega⟩
  ·exact⟨⟨h1,h2⟩,rfl⟩
 ·exact⟨zhC k _,rfl⟩
def gZ (a b:Int):Int:=if a<=b then a else b
def ws (a b:Int):Int:=if a<=b then b else a
theorem Gj (a b:Int):gZ a b<=a:=by unfold gZ;split<;>omega
theorem Gk (a b:Int):gZ a b<=b:=by unfold gZ;split<;>omega
theorem Gl (a b:Int):a<=ws a b:=by unfold ws;split<;>omega
theorem Gm (a b:Int):b<=ws a b:=by unfold ws;split<;>omega
theorem zmg {a b al ah bl bh:Int} (h1:al<=a) (h2:a<=ah) (h3:bl<=b) (h4:b<=bh):
  gZ (gZ (al*bl) (al*bh)) (gZ (ah*bl) (ah*bh))<=a*b/\a*b<=ws (ws (al*bl) (al*bh)) (ws (ah*bl) (ah*bh)):=by
 have key:∀x:Int,gZ (x*bl) (x*bh)<=x*b/\x*b<=ws (x*bl) (x*bh):=by
  intro x
  rcases Int.le_total 0 x with hx|hx
  ·have e1:=Int.mul_le_mul_of_nonneg_left h3 hx
   have e2:=Int.mul_le_mul_of_nonneg_left h4 hx
   exact⟨Int.le_trans (Gj _ _) e1,Int.le_trans e2 (Gm _ _)⟩
  ·have e1:=Int.mul_le_mul_of_nonpos_left hx h3
   have e2:=Int.mul_le_mul_of_nonpos_left hx h4
   exact⟨Int.le_trans (Gk _ _) e2,Int.le_trans e1 (Gl _ _)⟩
 have k1:=key al
 have k2:=key ah
 rcases Int.le_total 0 b with hb|hb
 ·have e1:=Int.mul_le_mul_of_nonneg_right h1 hb
  have e2:=Int.mul_le_mul_of_nonneg_right h2 hb
  exact⟨Int.le_trans (Gj _ _) (Int.le_trans k1.1 e1),Int.le_trans e2 (Int.le_trans k2.2 (Gm _ _))⟩
 ·have e1:=Int.mul_le_mul_of_nonpos_right h1 hb
  have e2:=Int.mul_le_mul_of_nonpos_right h2 hb
  exact⟨Int.le_trans (Gk _ _) (Int.le_trans k2.1 e2),Int.le_trans e1 (Int.le_trans k1.2 (Gl _ _))⟩
def zoV (k:IntKind) (a b:R):R:=fit k (zdo a.e b.e) (a.lo+b.lo) (a.hi+b.hi)
theorem zhD {ρ:Env} (k:IntKind) {a b:R} (ha:a.ok ρ) (hb:b.ok ρ):(zoV k a b).ok ρ/\(zoV k a b).e.i ρ=k.wrap (a.e.i ρ+b.e.i ρ):=by
 obtain⟨h1,h2⟩:=ha;obtain⟨h3,h4⟩:=hb
 have:=wY ρ k (zdo a.e b.e) (a.lo+b.lo) (a.hi+b.hi) (by rw[Ym];omega) (by rw[Ym];omega)
 rwa[Ym]at this
def znk (k:IntKind) (a b:R):R:=fit k (zdp a.e b.e) (a.lo-b.hi) (a.hi-b.lo)
theorem MV {ρ:Env} (k:IntKind) {a b:R} (ha:a.ok ρ) (hb:b.ok ρ):(znk k a b).ok ρ/\(znk k a b).e.i ρ=k.wrap (a.e.i ρ-b.e.i ρ):=by
 obtain⟨h1,h2⟩:=ha;obtain⟨h3,h4⟩:=hb
 have:=wY ρ k (zdp a.e b.e) (a.lo-b.hi) (a.hi-b.lo) (by rw[Yn];omega) (by rw[Yn];omega)
 rwa[Yn]at this
def zoW (k:IntKind) (a b:R):R:=
 fit k (zdq a.e b.e) (gZ (gZ (a.lo*b.lo) (a.lo*b.hi)) (gZ (a.hi*b.lo) (a.hi*b.hi))) (ws (ws (a.lo*b.lo) (a.lo*b.hi)) (ws (a.hi*b.lo) (a.hi*b.hi)))
theorem zhE {ρ:Env} (k:IntKind) {a b:R} (ha:a.ok ρ) (hb:b.ok ρ):(zoW k a b).ok ρ/\(zoW k a b).e.i ρ=k.wrap (a.e.i ρ*b.e.i ρ):=by
 have hm:=zmg ha.1 ha.2 hb.1 hb.2
 have:=wY ρ k (zdq a.e b.e) _ _ (by rw[Yo];exact hm.1) (by rw[Yo];exact hm.2)
 rwa[Yo]at this
theorem MW (x y:Int) (hy:1<=y):(0<=x->0<=x.tdiv y/\x.tdiv y<=x)/\(x<=0->x<=x.tdiv y/\x.tdiv y<=0):=by
 have key:∀z:Int,0<=z->0<=z.tdiv y/\z.tdiv y<=z:=by
  intro z hz
  rw[Int.tdiv_eq_ediv_of_nonneg hz]
  exact IntWalk.tdiv_le z y hz hy
 refine⟨key x,fun h=>?_⟩
 have:=key (-x) (by omega)
 rw[Int.neg_tdiv]at this
 omega
def znl (k:IntKind) (a b:R):R:=
 if 0<=a.lo then
  (if b.lo=b.hi then fit k (.bin .div a.e b.e) (a.lo/b.lo) (a.hi/b.lo)else fit k (.bin .div a.e b.e) 0 a.hi)
 else fit k (.bin .quo a.e b.e) (gZ a.lo 0) (ws a.hi 0)
theorem zhF {ρ:Env} (k:IntKind) {a b:R} (ha:a.ok ρ) (hb:b.ok ρ) (h1:1<=b.lo):(znl k a b).ok ρ/\(znl k a b).e.i ρ=k.wrap ((a.e.i ρ).tdiv (b.e.i ρ)):=by
 obtain⟨h2,h3⟩:=ha;obtain⟨h4,h5⟩:=hb
 have hy:1<=b.e.i ρ:=by omega
 unfold znl
 split
 ·rename_i h0
  rw[Int.tdiv_eq_ediv_of_nonneg (by omega:0<=a.e.i ρ)]
  split
  ·rename_i hl
   have hb':b.e.i ρ=b.lo:=by omega
   refine wY ρ k _ _ _ ?_ ?_
   ·show _<=a.e.i ρ/b.e.i ρ;rw[hb'];exact Int.ediv_le_ediv (by omega) h2
   ·show a.e.i ρ/b.e.i ρ<=_;rw[hb'];exact Int.ediv_le_ediv (by omega) h3
  ·have:=(MW (a.e.i ρ) (b.e.i ρ) hy).1 (by omega)
   rw[Int.tdiv_eq_ediv_of_nonneg (by omega:0<=a.e.i ρ)]at this
   exact wY ρ k _ _ _ this.1 (Int.le_trans this.2 h3)
 ·have t:=MW (a.e.i ρ) (b.e.i ρ) hy
  refine wY ρ k _ _ _ ?_ ?_
  ·show _<=(a.e.i ρ).tdiv (b.e.i ρ)
   rcases Int.le_total 0 (a.e.i ρ)with h|h
   ·exact Int.le_trans (Gk _ _) (t.1 h).1
   ·exact Int.le_trans (Int.le_trans (Gj _ _) h2) (t.2 h).1
  ·show(a.e.i ρ).tdiv (b.e.i ρ)<=_
   rcases Int.le_total 0 (a.e.i ρ)with h|h
   ·exact Int.le_trans (Int.le_trans (t.1 h).2 h3) (Gl _ _)
   ·exact Int.le_trans (t.2 h).2 (Gm _ _)
theorem zhG (x y:Int) (h:0<=x) (hy:0<y):x%y<=x:=by
 have:=Int.emod_add_mul_ediv x y
 have h2:=Int.mul_nonneg (Int.le_of_lt hy) (Int.ediv_nonneg h (Int.le_of_lt hy))
 omega
def znm (a b:R):R:=
 if 0<=a.lo then(if a.hi<b.lo then a else⟨.bin .mod a.e b.e,0,gZ a.hi (b.hi-1)⟩)else⟨.bin .rem a.e b.e,1-b.hi,b.hi-1⟩
theorem zhH {ρ:Env} {a b:R} (ha:a.ok ρ) (hb:b.ok ρ) (h1:1<=b.lo):(znm a b).ok ρ/\(znm a b).e.i ρ=(a.e.i ρ).tmod (b.e.i ρ):=by
 obtain⟨h2,h3⟩:=ha;obtain⟨h4,h5⟩:=hb
 unfold znm
 split
 ·rename_i h0
  have he:(a.e.i ρ).tmod (b.e.i ρ)=a.e.i ρ%b.e.i ρ:=Int.tmod_eq_emod_of_nonneg (by omega)
  split
  ·exact⟨⟨h2,h3⟩,by rw[he];exact(Int.emod_eq_of_lt (by omega) (by omega)).symm⟩
  ·refine⟨⟨Int.emod_nonneg _ (by omega),?_⟩,he.symm⟩
   show a.e.i ρ%b.e.i ρ<=_
   have e1:=Int.emod_lt_of_pos (a.e.i ρ) (by omega:0<b.e.i ρ)
   have e2:=zhG (a.e.i ρ) (b.e.i ρ) (by omega) (by omega)
   show _<=gZ _ _
   unfold gZ;split<;>omega
 ·refine⟨?_,rfl⟩
  show _<=(a.e.i ρ).tmod (b.e.i ρ)/\(a.e.i ρ).tmod (b.e.i ρ)<=_
  have e1:=Int.tmod_lt_of_pos (a.e.i ρ) (by omega:0<b.e.i ρ)
  have e2:=Int.tmod_lt_of_pos (-(a.e.i ρ)) (by omega:0<b.e.i ρ)
  rw[Int.neg_tmod]at e2
  show 1-b.hi<=_/\_<=b.hi-1
  omega
def zmh (a b:R):R:=if a.hi<=b.lo then a else if b.hi<=a.lo then b else⟨.bin .min a.e b.e,gZ a.lo b.lo,gZ a.hi b.hi⟩
theorem zhI {ρ:Env} {a b:R} (ha:a.ok ρ) (hb:b.ok ρ):(zmh a b).ok ρ/\(zmh a b).e.i ρ=min (a.e.i ρ) (b.e.i ρ):=by
 obtain⟨h2,h3⟩:=ha;obtain⟨h4,h5⟩:=hb
 unfold zmh
 split
 ·exact⟨⟨h2,h3⟩,by omega⟩
 ·split
  ·exact⟨⟨h4,h5⟩,by omega⟩
  ·refine⟨?_,rfl⟩
   show gZ _ _<=min _ _/\min _ _<=gZ _ _
   unfold gZ;(repeat' split)<;>omega
def zmi (a b:R):R:=if b.hi<=a.lo then a else if a.hi<=b.lo then b else⟨.bin .max a.e b.e,ws a.lo b.lo,ws a.hi b.hi⟩
theorem zhJ {ρ:Env} {a b:R} (ha:a.ok ρ) (hb:b.ok ρ):(zmi a b).ok ρ/\(zmi a b).e.i ρ=max (a.e.i ρ) (b.e.i ρ):=by
 obtain⟨h2,h3⟩:=ha;obtain⟨h4,h5⟩:=hb
 unfold zmi
 split
 ·exact⟨⟨h2,h3⟩,by omega⟩
 ·split
  ·exact⟨⟨h4,h5⟩,by omega⟩
  ·refine⟨?_,rfl⟩
   show ws _ _<=max _ _/\max _ _<=ws _ _
   unfold ws;(repeat' split)<;>omega
def rlt (a b:R):E:=if a.hi<b.lo then .bc true else if b.hi<=a.lo then .bc false else zhA a.e b.e
theorem zmj {ρ:Env} {a b:R} (ha:a.ok ρ) (hb:b.ok ρ):(rlt a b).b ρ=decide (a.e.i ρ<b.e.i ρ):=by
 obtain⟨h2,h3⟩:=ha;obtain⟨h4,h5⟩:=hb
 unfold rlt
 split
 ·simp[E.b];omega
 ·split
  ·simp[E.b];omega
  ·exact zfg ρ _ _
def rle (a b:R):E:=if a.hi<=b.lo then .bc true else if b.hi<a.lo then .bc false else zoU a.e b.e
theorem zmk {ρ:Env} {a b:R} (ha:a.ok ρ) (hb:b.ok ρ):(rle a b).b ρ=decide (a.e.i ρ<=b.e.i ρ):=by
 obtain⟨h2,h3⟩:=ha;obtain⟨h4,h5⟩:=hb
 unfold rle
 split
 ·simp[E.b];omega
 ·split
  ·simp[E.b];omega
  ·exact zmf ρ _ _
def req (a b:R):E:=if a.hi<b.lo\/b.hi<a.lo then .bc false else znj a.e b.e
theorem zdr {ρ:Env} {a b:R} (ha:a.ok ρ) (hb:b.ok ρ):(req a b).b ρ=decide (a.e.i ρ=b.e.i ρ):=by
 obtain⟨h2,h3⟩:=ha;obtain⟨h4,h5⟩:=hb
 unfold req
 split
 ·simp[E.b];omega
 ·exact zfh ρ _ _
def rch (d a b:E):E:=
 if a.same b then a else
 match d with
 | .bin .eq x (.c z)=>if(x.same b&&(E.c z).same a)then b else .ite d a b
 |d=> .ite d a b
theorem zoX (ρ:Env) (d a b:E):(rch d a b).i ρ=if d.b ρ=true then a.i ρ else b.i ρ:=by
 unfold rch
 split
 ·rename_i h;rw[E.same_eq h];simp
 ·split
  ·split
   ·rename_i x z h
    simp at h
    have e1:=E.same_eq h.1
    have e2:=E.same_eq h.2
    rw[<-e1,<-e2]
    by_cases hx:x.i ρ=z<;>simp[E.b,E.i,hx]
   ·rfl
  ·rfl
def Wh (d:E) (a b:R):R:=⟨rch d a.e b.e,gZ a.lo b.lo,ws a.hi b.hi⟩
theorem qX (ρ:Env) (d:E) (a b:R):(Wh d a b).e.i ρ=if d.b ρ=true then a.e.i ρ else b.e.i ρ:=zoX ρ d a.e b.e
theorem xZ {ρ:Env} {d:E} {a b:R} (hd:d.b ρ=true) (ha:a.ok ρ):(Wh d a b).ok ρ:=by
 obtain⟨h2,h3⟩:=ha
 have hi:=qX ρ d a b
 rw[if_pos hd]at hi
 unfold R.ok
 rw[hi]
 exact⟨Int.le_trans (Gj _ _) h2,Int.le_trans h3 (Gl _ _)⟩
theorem x4 {ρ:Env} {d:E} {a b:R} (hd:d.b ρ=false) (hb:b.ok ρ):(Wh d a b).ok ρ:=by
 obtain⟨h2,h3⟩:=hb
 have hi:=qX ρ d a b
 rw[if_neg (by rw[hd];simp)]at hi
 unfold R.ok
 rw[hi]
 exact⟨Int.le_trans (Gk _ _) h2,Int.le_trans h3 (Gm _ _)⟩
end Go.Proofs.YtoakpnoajmngmaaGreatDoor.Sx
namespace Go.Proofs.YtoakpnoajmngmaaGreatDoor.Sx
structure Bd where
 β:Nat->Nat
 o:Nat->Nat
 κ:Nat->Nat
inductive CK where
 |int (k:IntKind) (lo hi:Int)|bool|slc
 deriving DecidableEq,Repr,Inhabited
inductive SV where
 |int (k:IntKind) (r:R)
 |bool (e:E)
 |nilp|ptr (n off:Nat)
 |nils|sl (n off len:Nat) (cap:Option Nat)|slv (n off:Nat) (len:R)|emp (k:Nat)|osl (k:Nat) (sh:List CK) (len:R)|optr (k:Nat) (sh:List CK) (i:R) (off:Nat)|esl (id:Nat) (i:E)
 |nili|ifc (t:TypeId) (v:SV)|err (r:R)
 |nilf|fn (f:FuncId) (caps:List SV)
 |agg (l:List SV)|tup (l:List SV)
 |con (v:Value)
 deriving Inhabited
def CK.fid (k j:Nat):Nat:=1000+100*k+j
def CK.sv (c:CK) (k j:Nat) (i:E):SV:=match c with
 | .int kd lo hi=> .int kd ⟨.ap (CK.fid k j) (.cons i .nil),lo,hi⟩
 | .bool=> .bool (.ap (CK.fid k j) (.cons i .nil))
 | .slc=> .esl (CK.fid k j) i
def Env.slc (ρ:Env) (id:Nat) (i:Int):Value:= .slice (ρ.es id i).1 (ρ.es id i).2.1 (ρ.es id i).2.2
def CK.val (ρ:Env) (c:CK) (k j:Nat) (i:Int):Value:=match c with
 | .int kd _ _=> .int kd (ρ.fn (CK.fid k j) [i])
 | .bool=> .bool (ρ.fb (CK.fid k j) [i])
 | .slc=>ρ.slc (CK.fid k j) i
def CK.fits (ρ:Env) (c:CK) (k j:Nat) (i:Int):Prop:=match c with
 | .int _ lo hi=>lo<=ρ.fn (CK.fid k j) [i]/\ρ.fn (CK.fid k j) [i]<=hi
 | .bool=>True
 | .slc=>ρ.fn (CK.fid k j) [i]=(ρ.es (CK.fid k j) i).2.1/\(ρ.es (CK.fid k j) i).2.1<=9223372036854775807
def CK.elem (ρ:Env) (sh:List CK) (k:Nat) (i:Nat):Prop:=∀j c,sh[j]? =some c->(ρ.mv k)[i*sh.length+j]? =some (c.val ρ k j i)/\c.fits ρ k j i
mutual
def SV.den (ρ:Env) (b:Bd):SV->Value
 | .int k r=> .int k (r.e.i ρ)
 | .bool e=> .bool (e.b ρ)
 | .nilp=> .pointer none
 | .ptr n off=> .pointer (some ⟨b.β n,b.o n+off,none⟩)
 | .nils=> .slice none 0 0
 | .sl n off len cap=> .slice (some ⟨b.β n,b.o n+off,none⟩) len (cap.getD (b.κ n))
 | .slv n off len=> .slice (some ⟨b.β n,b.o n+off,none⟩) (len.e.i ρ).toNat (b.κ n)
 | .emp k=> .slice (ρ.ov k).1 0 (ρ.ov k).2
 | .osl k _ len=> .slice (ρ.ov k).1 (len.e.i ρ).toNat (ρ.ov k).2
 | .optr k sh i off=> .pointer ((ρ.ov k).1.map fun a=>⟨a.block,a.off+((i.e.i ρ).toNat*sh.length+off),none⟩)
 | .esl id i=>ρ.slc id (i.i ρ)
 | .nili=> .nilIface
 | .ifc t v=> .iface t (v.den ρ b)
 | .err r=>if r.e.i ρ=0 then .nilIface else .iface ρ.et (.int .i64 (r.e.i ρ))
 | .nilf=> .nilFunc
 | .fn f l=> .func (.func f) #[] (SV.denL ρ b l).toArray
 | .agg l=> .agg (SV.denL ρ b l).toArray
 | .tup l=> .tuple (SV.denL ρ b l).toArray
 | .con v=>v
def SV.denL (ρ:Env) (b:Bd):List SV->List Value
 |[]=>[]
 |a::l=>a.den ρ b::SV.denL ρ b l
end
mutual
def SV.ok (ρ:Env) (N:Nat->Prop):SV->Prop
 | .int _ r=>r.ok ρ
 | .ptr n _=>N n
 | .sl n _ _ _=>N n
 | .slv n _ len=>N n/\len.ok ρ/\0<=len.lo
 | .osl k sh len=>len.ok ρ/\0<=len.lo/\(∀i:Nat,(i:Int)<len.e.i ρ->CK.elem ρ sh k i)/\len.e.i ρ=ρ.ol k
 | .optr k sh i _=>i.ok ρ/\0<=i.e.i ρ/\CK.elem ρ sh k (i.e.i ρ).toNat/\∃p o,(ρ.ov k).1=some ⟨p,o,none⟩
 | .esl id i=>ρ.fn id [i.i ρ]=(ρ.es id (i.i ρ)).2.1/\(ρ.es id (i.i ρ)).2.1<=9223372036854775807
 | .ifc _ v=>v.ok ρ N
 | .err r=>r.ok ρ
 | .fn _ l=>SV.okL ρ N l
 | .agg l=>SV.okL ρ N l
 | .tup l=>SV.okL ρ N l
 |_=>True
def SV.okL (ρ:Env) (N:Nat->Prop):List SV->Prop
 |[]=>True
 |a::l=>a.ok ρ N/\SV.okL ρ N l
end
theorem CK.sv_den (ρ:Env) (b:Bd) (c:CK) (k j:Nat) (i:E):(c.sv k j i).den ρ b=c.val ρ k j (i.i ρ):=by
 cases c<;>simp[CK.sv,CK.val,SV.den,E.i,E.b,E.l]
theorem CK.sv_ok {ρ:Env} {N:Nat->Prop} {c:CK} {k j:Nat} {i:E} (h:c.fits ρ k j (i.i ρ)):(c.sv k j i).ok ρ N:=by
 cases c
 ·simpa [CK.sv,SV.ok,R.ok,E.i,E.l,CK.fits]using h
 ·trivial
 ·exact h
def zM (b b':Bd) (N:Nat->Prop):Prop:=∀n,N n->b'.β n=b.β n/\b'.o n=b.o n/\b'.κ n=b.κ n
theorem zW (ρ:Env) (b:Bd) (l:List SV):SV.denL ρ b l=l.map (SV.den ρ b):=by
 induction l with
 |nil=>simp[SV.denL]
 |cons a l ih=>rw[SV.denL,ih];rfl
theorem zk (ρ:Env) (b:Bd) (l:List SV):(SV.denL ρ b l).length=l.length:=by rw[zW];simp
theorem qm (ρ:Env) (b:Bd) (l:List SV) (i:Nat):(SV.denL ρ b l)[i]? =(l[i]?).map (SV.den ρ b):=by rw[zW];simp
theorem qo (ρ:Env) (N:Nat->Prop) (l:List SV):SV.okL ρ N l↔∀v∈l,v.ok ρ N:=by
 induction l with
 |nil=>simp[SV.okL]
 |cons a l ih=>rw[SV.okL,ih];simp
theorem ka {ρ:Env} {N:Nat->Prop} {l:List SV} (h:SV.okL ρ N l) {i:Nat} {v:SV} (hi:l[i]? =some v):v.ok ρ N:=
 (qo ρ N l).1 h v (List.mem_of_getElem? hi)
mutual
theorem SV.den_agree {ρ:Env} {b b':Bd} {N:Nat->Prop} (hb:zM b b' N):(v:SV)->v.ok ρ N->v.den ρ b'=v.den ρ b
 | .int k r,_=>rfl
 | .bool e,_=>rfl
 | .nilp,_=>rfl
 | .ptr n off,h=>by
   have:=hb n h
   simp only[SV.den,this]
 | .nils,_=>rfl
 | .sl n off len cap,h=>by
   have:=hb n h
   simp only[SV.den,this]
 | .slv n off len,h=>by
   have:=hb n h.1
   simp only[SV.den,this]
 | .emp k,_=>rfl
 | .osl _ _ _,_=>rfl
 | .optr _ _ _ _,_=>rfl
 | .esl _ _,_=>rfl
 | .nili,_=>rfl
 | .ifc t v,h=>by simp only[SV.den];rw[SV.den_agree hb v h]
 | .err r,_=>rfl
 | .nilf,_=>rfl
 | .fn f l,h=>by simp only[SV.den];rw[SV.denL_agree hb l h]
 | .agg l,h=>by simp only[SV.den];rw[SV.denL_agree hb l h]
 | .tup l,h=>by simp only[SV.den];rw[SV.denL_agree hb l h]
 | .con v,_=>rfl
theorem SV.denL_agree {ρ:Env} {b b':Bd} {N:Nat->Prop} (hb:zM b b' N):(l:List SV)->SV.okL ρ N l->SV.denL ρ b' l=SV.denL ρ b l
 |[],_=>rfl
 |a::l,h=>by simp only[SV.denL];rw[SV.den_agree hb a h.1,SV.denL_agree hb l h.2]
end
mutual
theorem SV.ok_mono {ρ:Env} {N M:Nat->Prop} (hN:∀n,N n->M n):(v:SV)->v.ok ρ N->v.ok ρ M
 | .int k r,h=>h
 | .bool e,_=>trivial
 | .nilp,_=>trivial
 | .ptr n off,h=>hN n h
 | .nils,_=>trivial
 | .sl n off len cap,h=>hN n h
 | .slv n off len,h=>⟨hN n h.1,h.2⟩
 | .emp k,h=>trivial
 | .osl _ _ _,h=>h
 | .optr _ _ _ _,h=>h
 | .esl _ _,h=>h
 | .nili,_=>trivial
 | .ifc t v,h=>SV.ok_mono hN v h
 | .err r,h=>h
 | .nilf,_=>trivial
 | .fn f l,h=>SV.okL_mono hN l h
 | .agg l,h=>SV.okL_mono hN l h
 | .tup l,h=>SV.okL_mono hN l h
 | .con v,_=>trivial
theorem SV.okL_mono {ρ:Env} {N M:Nat->Prop} (hN:∀n,N n->M n):(l:List SV)->SV.okL ρ N l->SV.okL ρ M l
 |[],_=>trivial
 |a::l,h=>⟨SV.ok_mono hN a h.1,SV.okL_mono hN l h.2⟩
end
def SV.ofValue:Value->SV
 | .int k n=> .int k ⟨.c n,n,n⟩
 | .bool b=> .bool (.bc b)
 | .pointer none=> .nilp
 | .slice none 0 0=> .nils
 | .nilIface=> .nili
 | .nilFunc=> .nilf
 |v=> .con v
theorem SV.ofValue_den (ρ:Env) (b:Bd) (v:Value):(SV.ofValue v).den ρ b=v:=by
 unfold SV.ofValue
 split<;>rfl
theorem SV.ofValue_ok (ρ:Env) (N:Nat->Prop) (v:Value):(SV.ofValue v).ok ρ N:=by
 unfold SV.ofValue
 split<;>first|exact trivial|exact⟨Int.le_refl _,Int.le_refl _⟩
def SV.isOne:SV->Bool
 | .agg _| .tup _| .con _=>false
 |_=>true
theorem SV.isOne_den {v:SV} (h:v.isOne=true) (ρ:Env) (b:Bd):(v.den ρ b).oneCell'=true/\(v.den ρ b).cells=#[v.den ρ b]:=by
 cases v<;>simp[SV.isOne]at h<;>simp only[SV.den]<;>(try split)<;>exact⟨rfl,rfl⟩
def SV.cells:SV->List SV
 | .agg l=>l
 |v=>[v]
theorem SV.cells_den {v:SV} (ρ:Env) (b:Bd) (h:v.isOne=true\/∃l,v= .agg l):(v.den ρ b).cells=(SV.denL ρ b v.cells).toArray:=by
 rcases h with h|⟨l,rfl⟩
 ·rw[(SV.isOne_den h ρ b).2]
  cases v<;>simp[SV.isOne]at h<;>rfl
 ·rfl
theorem SV.cells_ok {v:SV} {ρ:Env} {N:Nat->Prop} (h:v.ok ρ N):SV.okL ρ N v.cells:=by
 cases v<;>first|exact h|exact⟨h,trivial⟩
def zB {α:Type}:List (Nat × α)->Nat->Option α
 |[],_=>none
 |(m,x)::l,n=>if m=n then some x else zB l n
def upd {α:Type}:List (Nat × α)->Nat->α->List (Nat × α)
 |[],n,y=>[(n,y)]
 |(m,x)::l,n,y=>if m=n then(m,y)::l else(m,x)::upd l n y
def push {α:Type} (l:List (Nat × α)) (n:Nat) (y:α):List (Nat × α):=(n,y)::l
theorem qF {α:Type} (l:List (Nat × α)) (n:Nat) (y:α) (m:Nat):zB (push l n y) m=if n=m then some y else zB l m:=rfl
def del {α:Type}:List (Nat × α)->Nat->List (Nat × α)
 |[],_=>[]
 |(m,x)::l,n=>if m=n then del l n else(m,x)::del l n
theorem Gn {α:Type} (l:List (Nat × α)) (n:Nat) (y:α) (m:Nat):zB (upd l n y) m=if n=m then some y else zB l m:=by
 induction l with
 |nil=>simp[upd,zB]
 |cons a l ih=>
  obtain⟨k,x⟩:=a
  unfold upd
  by_cases h:k=n
  ·subst h;simp[zB];split<;>rfl
  ·simp only[h,if_false,zB,ih]
   by_cases h2:k=m
   ·subst h2
    have:¬n=k:=fun e=>h e.symm
    simp[this]
   ·simp[h2]
theorem wu {α:Type} (l:List (Nat × α)) (n:Nat) (m:Nat):zB (del l n) m=if n=m then none else zB l m:=by
 induction l with
 |nil=>simp[del,zB]
 |cons a l ih=>
  obtain⟨k,x⟩:=a
  unfold del
  by_cases h:k=n
  ·subst h;simp only[if_true,ih,zB];split<;>simp_all
  ·simp only[h,if_false,zB,ih]
   by_cases h2:k=m
   ·subst h2
    have:¬n=k:=fun e=>h e.symm
    simp[this]
   ·simp[h2]
inductive BK where
 |full|grow (size:Nat)|far|row (id:Nat)
 deriving DecidableEq,Repr,Inhabited
structure Blk where
 cells:List SV
 elem:TypeId
 kind:BK
 deriving Inhabited
def Blk.own (B:Blk):Bool:=match B.kind with| .far=>false|_=>true
def Blk.ok (ρ:Env) (b:Bd) (base:Nat->Prop) (w:World) (n:Nat) (B:Blk):Prop:=
 match B.kind with
 | .full=>b.o n=0/\¬base (b.β n)/\w.heap[b.β n]? =some (.cells (SV.denL ρ b B.cells).toArray B.elem (0,0))
 | .grow size=>b.o n=0/\¬base (b.β n)/\∃arr:Array Value,w.heap[b.β n]? =some (.cells arr B.elem (0,0))/\arr.size=b.κ n*size/\B.cells.length<=arr.size/\∀(i:Nat) (v:SV),B.cells[i]? =some v->arr[i]? =some (v.den ρ b)
 | .far=>base (b.β n)/\∀(i:Nat) (v:SV),B.cells[i]? =some v->w.cell? ⟨b.β n,b.o n+i,none⟩=some (v.den ρ b)
 | .row id=>b.o n=0/\¬base (b.β n)/\B.cells=[]/\∃arr:Array Value,w.heap[b.β n]? =some (.cells arr B.elem (0,0))/\∀(i:Nat) (x:Int),(ρ.fl id [])[i]? =some x->arr[i]? =some (.int .i64 x)
theorem Blk.ok.cell {ρ:Env} {b:Bd} {base:Nat->Prop} {w:World} {n:Nat} {B:Blk} (h:B.ok ρ b base w n) {i:Nat} {v:SV} (hi:B.cells[i]? =some v):w.cell? ⟨b.β n,b.o n+i,none⟩=some (v.den ρ b):=by
 unfold Blk.ok at h
 split at h
 ·obtain⟨h0,_,h2⟩:=h
  simp[World.cell?,h2,h0,qm,hi]
 ·obtain⟨h0,_,arr,h2,_,_,h3⟩:=h
  simp[World.cell?,h2,h0,h3 i v hi]
 ·exact h.2 i v hi
 ·obtain⟨_,_,h2,_⟩:=h
  rw[h2]at hi;cases hi
theorem Blk.ok.frozen {ρ:Env} {b:Bd} {base:Nat->Prop} {w:World} {n:Nat} {B:Blk} (h:B.ok ρ b base w n) (ho:B.own=true) (i:Nat):w.frozen? ⟨b.β n,i,none⟩=false:=by
 unfold Blk.ok at h
 unfold Blk.own at ho
 split at h
 ·simp[World.frozen?,h.2.2]
 ·obtain⟨_,_,arr,h2,_⟩:=h
  simp[World.frozen?,h2]
 ·simp_all
 ·obtain⟨_,_,_,arr,h2,_⟩:=h
  simp[World.frozen?,h2]
theorem Blk.ok.base {ρ:Env} {b:Bd} {base:Nat->Prop} {w:World} {n:Nat} {B:Blk} (h:B.ok ρ b base w n) (ho:B.own=true):¬base (b.β n)/\b.β n<w.heap.size/\b.o n=0:=by
 unfold Blk.ok at h
 unfold Blk.own at ho
 split at h
 ·exact⟨h.2.1,(Array.getElem?_eq_some_iff.1 h.2.2).1,h.1⟩
 ·obtain⟨h0,h1,arr,h2,_⟩:=h
  exact⟨h1,(Array.getElem?_eq_some_iff.1 h2).1,h0⟩
 ·simp_all
 ·obtain⟨h0,h1,_,arr,h2,_⟩:=h
  exact⟨h1,(Array.getElem?_eq_some_iff.1 h2).1,h0⟩
theorem Blk.ok.keep {ρ:Env} {b b':Bd} {base:Nat->Prop} {w w':World} {n:Nat} {B:Blk} {N:Nat->Prop} (h:B.ok ρ b base w n) (hn:N n) (hok:SV.okL ρ N B.cells) (hb:zM b b' N) (hw:w'.heap[b.β n]? =w.heap[b.β n]?):B.ok ρ b' base w' n:=by
 obtain⟨e1,e2,e3⟩:=hb n hn
 unfold Blk.ok at h ⊢
 split at h
 ·rw[e1,e2,hw,SV.denL_agree hb _ hok];exact h
 ·rw[e1,e2,hw,e3]
  obtain⟨h0,h1,arr,h2,h3,h4,h5⟩:=h
  exact⟨h0,h1,arr,h2,h3,h4,fun i v hi=>by rw[SV.den_agree hb v (ka hok hi)];exact h5 i v hi⟩
 ·rw[e1,e2]
  refine⟨h.1,fun i v hi=>?_⟩
  rw[SV.den_agree hb v (ka hok hi),<-h.2 i v hi]
  exact World.cell?_of_block (w:=w) hw
 ·rw[e1,e2,hw];exact h
end Go.Proofs.YtoakpnoajmngmaaGreatDoor.Sx
namespace Go.Proofs.YtoakpnoajmngmaaGreatDoor.Sx
open Go.RowKit (Below)
def qq (ρ:Env) (l:List E):Prop:=∀e∈l,e.b ρ=true
def sub (g A:List E):Bool:=g.all fun e=>A.any fun x=>e.same x
theorem sub_ok {ρ:Env} {g A:List E} (h:sub g A=true) (hA:qq ρ A):qq ρ g:=by
 intro e he
 unfold sub at h
 rw[List.all_eq_true]at h
 have:=h e he
 rw[List.any_eq_true]at this
 obtain⟨x,hx,hs⟩:=this
 rw[E.same_eq hs];exact hA x hx
structure Ent where
 g:List E
 sv:SV
 deriving Inhabited
structure HEnt where
 g:List E
 blk:Blk
 deriving Inhabited
structure St where
 tmps:List (Nat × Ent)
 heap:List (Nat × HEnt)
 next:Nat
 nt:Nat
 deriving Inhabited
structure Kept (F:Nat->Prop) (w w':World):Prop where
 os:w'.os=w.os
 tape:w'.tape=w.tape
 output:w'.output=w.output
 size:w.heap.size<=w'.heap.size
 block:∀k,F k->w'.heap[k]? =w.heap[k]?
theorem Kept.refl (F:Nat->Prop) (w:World):Kept F w w:=⟨rfl,rfl,rfl,Nat.le_refl _,fun _ _=>rfl⟩
theorem Kept.trans {F:Nat->Prop} {a b c:World} (h:Kept F a b) (k:Kept F b c):Kept F a c:=
 ⟨k.os.trans h.os,k.tape.trans h.tape,k.output.trans h.output,Nat.le_trans h.size k.size,fun i hi=>(k.block i hi).trans (h.block i hi)⟩
theorem Kept.mono {F G:Nat->Prop} {w w':World} (h:Kept F w w') (hG:∀k,G k->F k):Kept G w w':=⟨h.os,h.tape,h.output,h.size,fun k hk=>h.block k (hG k hk)⟩
theorem Kept.drew {F:Nat->Prop} {a w:World} (h:Kept F a w):Kept F a w.drew:=⟨h.os,h.tape,h.output,h.size,h.block⟩
theorem Kept.alloc {F:Nat->Prop} {a w:World} (h:Kept F a w) (hF:∀k,F k->k<w.heap.size) (o:Obj):Kept F a (w.alloc o):=
 h.trans ⟨rfl,rfl,rfl,by simp,fun k hk=>Below.heap_alloc _ _ _ (hF k hk)⟩
theorem Kept.of {w w':World} {n:Nat} (h:Below n w w'):Kept (· <n) w w':=⟨h.os,h.tape,h.output,h.size,h.block⟩
theorem Kept.below {w w':World} {n:Nat} (h:Kept (· <n) w w'):Below n w w':=⟨h.os,h.tape,h.output,h.size,h.block⟩
def Mel (ρ:Env) (base:Nat->Prop) (w:World):Prop:=∀k i v,(ρ.mv k)[i]? =some v->∃p off,(ρ.ov k).1=some ⟨p,off,none⟩/\base p/\w.cell? ⟨p,off+i,none⟩=some v
def Men (ρ:Env) (base:Nat->Prop) (w:World):Prop:=∀k i q v,(ρ.mn k i)[q]? =some v->∃p off,(ρ.es k i).1=some ⟨p,off,none⟩/\base p/\w.cell? ⟨p,off+q,none⟩=some v
def Mem (ρ:Env) (base:Nat->Prop) (w:World):Prop:=Mel ρ base w/\Men ρ base w
theorem Mem.kept {ρ:Env} {base:Nat->Prop} {w w':World} (h:Mem ρ base w) (hk:Kept base w w'):Mem ρ base w':=⟨fun k i v hv=>by
 obtain⟨p,off,h1,h2,h3⟩:=h.1 k i v hv
 exact⟨p,off,h1,h2,(World.cell?_of_block (w:=w) (hk.block p h2)).trans h3⟩,fun k i q v hv=>by
 obtain⟨p,off,h1,h2,h3⟩:=h.2 k i q v hv
 exact⟨p,off,h1,h2,(World.cell?_of_block (w:=w) (hk.block p h2)).trans h3⟩⟩
theorem Mem.mono {ρ:Env} {base base':Nat->Prop} {w:World} (h:Mem ρ base w) (hb:∀k,base k->base' k):Mem ρ base' w:=⟨fun k i v hv=>by
 obtain⟨p,off,h1,h2,h3⟩:=h.1 k i v hv
 exact⟨p,off,h1,hb p h2,h3⟩,fun k i q v hv=>by
 obtain⟨p,off,h1,h2,h3⟩:=h.2 k i q v hv
 exact⟨p,off,h1,hb p h2,h3⟩⟩
theorem Mem.none {ρ:Env} {base:Nat->Prop} {w:World} (h:ρ.mv=fun _=>[]) (h':ρ.mn=fun _ _=>[]):Mem ρ base w:=⟨fun k i v hv=>(by rw[h]at hv;cases hv),fun k i q v hv=>(by rw[h']at hv;cases hv)⟩
theorem Mem.of {ρ ρ':Env} {base:Nat->Prop} {w:World} (h:Mem ρ base w) (h1:ρ'.mv=ρ.mv) (h2:ρ'.ov=ρ.ov) (h3:ρ'.es=ρ.es) (h4:ρ'.mn=ρ.mn):Mem ρ' base w:=⟨fun k i v hv=>(by rw[h1]at hv;rw[h2];exact h.1 k i v hv),fun k i q v hv=>(by rw[h4]at hv;rw[h3];exact h.2 k i q v hv)⟩
structure HRel (ρ:Env) (b:Bd) (base:Nat->Prop) (w:World) (H:List (Nat × HEnt)) (N:Nat->Prop):Prop where
 mem:∀n h,zB H n=some h->qq ρ h.g->N n/\h.blk.ok ρ b base w n/\SV.okL ρ N h.blk.cells
 inj:∀n m h k,zB H n=some h->zB H m=some k->qq ρ h.g->qq ρ k.g->h.blk.own=true->k.blk.own=true->b.β n=b.β m->n=m
def Ent.at (ρ:Env) (b:Bd) (N:Nat->Prop) (tm:Array Value) (i:Nat) (e:Ent):Prop:=
 (qq ρ e.g->tm[i]? =some (e.sv.den ρ b)/\e.sv.ok ρ N)/\(¬qq ρ e.g->tm[i]? =some undef)
structure Rel (ρ:Env) (b:Bd) (bs:Nat->Prop) (w0 w:World) (S:St) (tm:Array Value):Prop where
 heap:HRel ρ b bs w S.heap (· <S.next)
 tmps:∀i e,zB S.tmps i=some e->e.at ρ b (· <S.next) tm i
 below:Kept bs w0 w
 base:(∀k,bs k->k<w.heap.size)
 nt:tm.size=S.nt
 kept:Mem ρ bs w0
def ev (A:List E) (S:St):Operand->Option SV
 | .tmp t=>match zB S.tmps t with
   |some e=>if sub e.g A then some e.sv else none
   |none=>none
 | .const v=>some (SV.ofValue v)
 | .func f=>some (.fn f [])
 | .global _=>none
theorem qf {ρ:Env} {b:Bd} {base:Nat->Prop} {w0 w:World} {S:St} {a:Act} {A:List E} (h:Rel ρ b base w0 w S a.tmps) (hA:qq ρ A) {x:Operand} {v:SV} (hx:ev A S x=some v):a.eval x=v.den ρ b/\v.ok ρ (· <S.next):=by
 cases x with
 |tmp t=>
  simp only[ev]at hx
  cases hf:zB S.tmps t with
  |none=>rw[hf]at hx;cases hx
  |some e=>
   rw[hf]at hx
   dsimp only at hx
   split at hx
   ·rename_i hs
    cases hx
    obtain⟨h1,h2⟩:=(h.tmps t e hf).1 (sub_ok hs hA)
    refine⟨?_,h2⟩
    simp[Act.eval,Array.getD_eq_getD_getElem?,h1]
   ·cases hx
 |const v=>cases hx;exact⟨(SV.ofValue_den ρ b v).symm,SV.ofValue_ok ρ _ v⟩
 |func f=>cases hx;exact⟨by simp[Act.eval,SV.den,SV.denL],trivial⟩
 |global g=>cases hx
def MX (A:List E) (S:St) (n:Nat):Option Blk:=
 match zB S.heap n with
 |some h=>if sub h.g A then some h.blk else none
 |none=>none
theorem Qz {ρ:Env} {b:Bd} {base:Nat->Prop} {w0 w:World} {S:St} {tm:Array Value} {A:List E} (h:Rel ρ b base w0 w S tm) (hA:qq ρ A) {n:Nat} {B:Blk} (hx:MX A S n=some B):
  n<S.next/\B.ok ρ b base w n/\SV.okL ρ (· <S.next) B.cells:=by
 simp only[MX]at hx
 cases hf:zB S.heap n with
 |none=>rw[hf]at hx;cases hx
 |some e=>
  rw[hf]at hx
  dsimp only at hx
  split at hx
  ·rename_i hs
   cases hx
   exact h.heap.mem n e hf (sub_ok hs hA)
  ·cases hx
def MY (P:Program) (t:TypeId):Option Bool:=
 match P.underlying t with
 |some (.struct _)=>some true
 |some (.array _ _)=>some true
 |some _=>some false
 |none=>none
def yu (P:Program) (t:TypeId):Option Nat:=(P.info? t).map (·.size)
theorem x5 {P:Program} {t:TypeId} {x:Bool} (h:MY P t=some x) (w:World):(isAgg t).run P w= .ok x w:=by
 unfold MY at h
 cases hu:P.underlying t with
 |none=>rw[hu]at h;cases h
 |some d=>
  rw[hu]at h
  cases d<;>cases h<;>simp[isAgg,run_underlying hu]
theorem qi {P:Program} {t:TypeId} {n:Nat} (h:yu P t=some n) (w:World):(sizeOf t).run P w= .ok n w:=by
 unfold yu at h
 cases hi:P.info? t with
 |none=>rw[hi]at h;cases h
 |some i=>
  rw[hi]at h
  cases h
  simp[sizeOf,typeInfo,hi]
def g8 (P:Program) (t:TypeId) (cs:List SV) (off:Nat):Option SV:=
 match MY P t,yu P t with
 |some true,some n=>if off+n<=cs.length then some (.agg ((cs.drop off).take n))else none
 |some false,_=>cs[off]?
 |_,_=>none
theorem QA {ρ:Env} {N:Nat->Prop} {l:List SV} (h:SV.okL ρ N l) (i n:Nat):SV.okL ρ N ((l.drop i).take n):=
 (qo _ _ _).2 fun v hv=>(qo _ _ _).1 h v (List.mem_of_mem_drop (List.mem_of_mem_take hv))
theorem MZ (ρ:Env) (b:Bd) (l:List SV) (i n:Nat):SV.denL ρ b ((l.drop i).take n)=((SV.denL ρ b l).drop i).take n:=by
 rw[zW,zW,List.map_take,List.map_drop]
theorem yP {P:Program} {t:TypeId} {cs:List SV} {off:Nat} {v:SV} (h:g8 P t cs off=some v) {ρ:Env} {b:Bd} {N:Nat->Prop} (hk:SV.okL ρ N cs) (w:World):
  (part t (SV.denL ρ b cs).toArray off).run P w= .ok (v.den ρ b) w/\v.ok ρ N:=by
 unfold g8 at h
 split at h
 ·rename_i n ha hs
  split at h
  ·rename_i hl
   cases h
   refine⟨?_,QA hk _ _⟩
   simp only[part,Sem.run_bind,x5 ha,Result.andThen,if_true,qi hs]
   simp only[SV.den,MZ]
   simp[List.extract_eq_take_drop,Nat.add_sub_cancel_left]
  ·cases h
 ·rename_i ha
  refine⟨?_,ka hk h⟩
  simp[part,Sem.run_bind,x5 ha,qm,h]
 ·cases h
theorem QB {P:Program} {t:TypeId} {cs:List SV} {off:Nat} {v:SV} (h:g8 P t cs off=some v) {ρ:Env} {b:Bd} {N:Nat->Prop} (hk:SV.okL ρ N cs) {w:World} {a:Addr}
  (hc:∀i u,cs[off+i]? =some u->w.cell? (a.add i)=some (u.den ρ b)):
  (loadVar t a).run P w= .ok (v.den ρ b) w/\v.ok ρ N:=by
 unfold g8 at h
 split at h
 ·rename_i n ha hs
  split at h
  ·rename_i hl
   cases h
   refine⟨?_,QA hk _ _⟩
   have hlen:(SV.denL ρ b ((cs.drop off).take n)).length=n:=by rw[zk];simp;omega
   have:=run_loadCells_list (P:=P) w a (SV.denL ρ b ((cs.drop off).take n)) (fun j u hj=>by
    rw[qm]at hj
    cases hg:((cs.drop off).take n)[j]? with
    |none=>rw[hg]at hj;cases hj
    |some x=>
     rw[hg]at hj
     cases hj
     refine hc j x ?_
     rw[List.getElem?_take]at hg
     split at hg
     ·simpa using hg
     ·cases hg)
   rw[hlen]at this
   simp only[loadVar,Sem.run_bind,x5 ha,Result.andThen,if_true,qi hs,this]
   rfl
  ·cases h
 ·rename_i ha
  refine⟨?_,ka hk h⟩
  have:=hc 0 v (by simpa using h)
  simp only[Addr.add,if_true]at this
  simp[loadVar,x5 ha,load,Sem.run,this]
 ·cases h
end Go.Proofs.YtoakpnoajmngmaaGreatDoor.Sx
namespace Go.Proofs.YtoakpnoajmngmaaGreatDoor.Sx
open Go.RowKit (Below)
def yQ:Operand->Bool
 | .const _=>true
 |_=>false
def zoY (P:Program) (op:BinOp) (t:TypeId) (nk:Bool) (x y:SV):Option SV:=
 match x,y with
 | .int k a,.int k' b=>
   if op= .shr then if b.lo=b.hi/\0<=b.lo/\b.lo<=62/\k.bits=64 then some (.int k ⟨.bin .div a.e (.c (2^b.lo.toNat)),a.lo/2^b.lo.toNat,a.hi/2^b.lo.toNat⟩)else none
   else if k=k' then
    match op with
    | .add=>some (.int k (zoV k a b))
    | .sub=>some (.int k (znk k a b))
    | .mul=>some (.int k (zoW k a b))
    | .quo=>if 1<=b.lo then some (.int k (znl k a b))else none
    | .rem=>if 1<=b.lo then some (.int k (znm a b))else none
    | .eql=>some (.bool (req a b))
    | .neq=>some (.bool (jz (req a b)))
    | .lss=>some (.bool (rlt a b))
    | .leq=>some (.bool (rle a b))
    | .gtr=>some (.bool (rlt b a))
    | .geq=>some (.bool (rle b a))
    |_=>none
   else none
 | .bool a,.bool b=>
   match P.underlying t,op with
   |some .bool,.eql=>some (.bool (MU a b))
   |some .bool,.neq=>some (.bool (jz (MU a b)))
   |_,_=>none
 |x,.nili=>
  match P.underlying t with
  |some (.interface _)=>
   if nk then
    match x with
    | .nili=>match op with| .eql=>some (.bool (.bc true))| .neq=>some (.bool (.bc false))|_=>none
    | .ifc _ _=>match op with| .eql=>some (.bool (.bc false))| .neq=>some (.bool (.bc true))|_=>none
    | .err r=>match op with| .eql=>some (.bool (req r ⟨.c 0,0,0⟩))| .neq=>some (.bool (jz (req r ⟨.c 0,0,0⟩)))|_=>none
    |_=>none
   else none
  |_=>none
 |_,_=>none
theorem Yq (a b:Int):(a==b)=decide (a=b):=by by_cases h:a=b<;>simp[h]
theorem wZ {P:Program} {t:TypeId} (d:Nat) (hu:P.underlying t=some .bool) (a c:Bool) (w:World):(Op.equalIn (d+1) t (.bool a) (.bool c)).run P w= .ok (a==c) w:=by
 simp[Op.equalIn,run_underlying hu]
theorem wv {P:Program} {t:TypeId} (d:Nat) {m:Array (String × TypeId)} (hu:P.underlying t=some (.interface m)) (w:World):(Op.equalIn (d+1) t .nilIface .nilIface).run P w= .ok true w:=by
 simp[Op.equalIn,run_underlying hu]
theorem x6 {P:Program} {t:TypeId} (d:Nat) {m:Array (String × TypeId)} (hu:P.underlying t=some (.interface m)) (u:TypeId) (v:Value) (w:World):(Op.equalIn (d+1) t (.iface u v) .nilIface).run P w= .ok false w:=by
 simp[Op.equalIn,run_underlying hu]
theorem kc {P:Program} {t:TypeId} {x y:Value} {r:Bool} {w:World} (h:(Op.equalIn (9999+1) t x y).run P w= .ok r w):
  ((do pure (.bool (<-Op.equal t x y)):Sem Value).run P w= .ok (.bool r) w)/\((do pure (.bool (!(<-Op.equal t x y))):Sem Value).run P w= .ok (.bool (!r)) w):=by
 have h':(Op.equal t x y).run P w= .ok r w:=h
 constructor<;>simp only[Sem.run_bind,h',Result.andThen]<;>rfl
theorem ke (ρ:Env) (z:Int):R.ok ρ ⟨.c z,z,z⟩:=⟨Int.le_refl _,Int.le_refl _⟩
theorem zhK {P:Program} {op:BinOp} {t yt:TypeId} {xo yo:Operand} {x y v:SV} {ρ:Env} {b:Bd} {N:Nat->Prop} (h:zoY P op t (yQ xo||yQ yo) x y=some v) (hx:x.ok ρ N) (hy:y.ok ρ N) (w:World):
  (do eqGuard op t xo yo (x.den ρ b) (y.den ρ b);binOp op t (x.den ρ b) (y.den ρ b):Sem Value).run P w= .ok (v.den ρ b) w/\v.ok ρ N:=by
 unfold zoY at h
 split at h
 ·rename_i k a k' c
  split at h
  ·rename_i hop
   subst hop
   split at h
   ·rename_i h1
    obtain⟨h1,h2,h3,h4⟩:=h1
    cases h
    obtain⟨y1,y2⟩:=hy
    obtain⟨x1,x2⟩:=hx
    have e1:c.e.i ρ=c.lo:=by omega
    have e2:min (c.lo.toNat) k.bits=c.lo.toNat:=by rw[h4];omega
    have hp:(0:Int)<2^c.lo.toNat:=Int.pow_pos (by omega)
    refine⟨?_,?_,?_⟩
    ·have g:(eqGuard BinOp.shr t xo yo (.int k (a.e.i ρ)) (.int k' (c.e.i ρ))).run P w= .ok () w:=by
      unfold eqGuard;simp
     simp only[SV.den,Sem.run_bind,g,Result.andThen]
     simp only[binOp,Op.shift,e1,e2]
     rw[if_neg (by omega),Int.fdiv_eq_ediv_of_nonneg _ (Int.le_of_lt hp)]
     simp[E.i]
    ·exact Int.ediv_le_ediv hp x1
    ·exact Int.ediv_le_ediv hp x2
   ·cases h
  rename_i hns
  split at h
  ·rename_i hk
   subst hk
   have g:(eqGuard op t xo yo (.int k (a.e.i ρ)) (.int k (c.e.i ρ))).run P w= .ok () w:=by
    unfold eqGuard;split<;>simp
   simp only[SV.den,Sem.run_bind,g,Result.andThen]
   cases op<;>simp only at h
   case add=>cases h;have:=zhD k hx hy;exact⟨by simp[binOp,Op.intArith,SV.den,this.2],this.1⟩
   case sub=>cases h;have:=MV k hx hy;exact⟨by simp[binOp,Op.intArith,SV.den,this.2],this.1⟩
   case mul=>cases h;have:=zhE k hx hy;exact⟨by simp[binOp,Op.intArith,SV.den,this.2],this.1⟩
   case quo=>
    split at h
    ·rename_i h1
     cases h
     have:=zhF k hx hy h1
     have hne:c.e.i ρ≠0:=by have:=hy.1;omega
     exact⟨by simp[binOp,Op.intDiv,SV.den,this.2,hne],this.1⟩
    ·cases h
   case rem=>
    split at h
    ·rename_i h1
     cases h
     have:=zhH hx hy h1
     have hne:c.e.i ρ≠0:=by have:=hy.1;omega
     exact⟨by simp[binOp,Op.intDiv,SV.den,this.2,hne],this.1⟩
    ·cases h
   case eql=>cases h;exact⟨by simp[binOp,Op.intCmp,SV.den,zdr hx hy,Yq],trivial⟩
   case neq=>cases h;exact⟨by simp[binOp,Op.intCmp,SV.den,q7,zdr hx hy,bne,Yq],trivial⟩
   case lss=>cases h;exact⟨by simp[binOp,Op.intCmp,SV.den,zmj hx hy],trivial⟩
   case leq=>cases h;exact⟨by simp[binOp,Op.intCmp,SV.den,zmk hx hy],trivial⟩
   case gtr=>cases h;exact⟨by simp[binOp,Op.intCmp,SV.den,zmj hy hx],trivial⟩
   case geq=>cases h;exact⟨by simp[binOp,Op.intCmp,SV.den,zmk hy hx],trivial⟩
   all_goals cases h
  ·cases h
 ·rename_i a c
  have g:(eqGuard op t xo yo (.bool (a.b ρ)) (.bool (c.b ρ))).run P w= .ok () w:=by
   unfold eqGuard;split<;>simp
  simp only[SV.den,Sem.run_bind,g,Result.andThen]
  split at h
  ·rename_i hu
   cases h
   exact⟨by simp only[SV.den,Yp];exact(kc (wZ 9999 hu _ _ w)).1,trivial⟩
  ·rename_i hu
   cases h
   exact⟨by simp only[SV.den,Yp,q7];exact(kc (wZ 9999 hu _ _ w)).2,trivial⟩
  ·cases h
 ·split at h
  ·rename_i hu
   split at h
   ·rename_i hnk
    split at h
    ·have g:(eqGuard op t xo yo .nilIface .nilIface).run P w= .ok () w:=by
      cases xo<;>cases yo<;>simp[yQ]at hnk<;>cases op<;>simp[eqGuard]
     simp only[SV.den,Sem.run_bind,g,Result.andThen]
     cases op<;>simp only at h<;>cases h
     ·exact⟨(kc (wv 9999 hu w)).1,trivial⟩
     ·exact⟨(kc (wv 9999 hu w)).2,trivial⟩
    ·rename_i ti vi
     have g:(eqGuard op t xo yo (.iface ti (vi.den ρ b)) .nilIface).run P w= .ok () w:=by
      unfold eqGuard;split<;>simp
     simp only[SV.den,Sem.run_bind,g,Result.andThen]
     cases op<;>simp only at h<;>cases h
     ·exact⟨(kc (x6 9999 hu _ _ w)).1,trivial⟩
     ·exact⟨(kc (x6 9999 hu _ _ w)).2,trivial⟩
    ·rename_i r
     have hr:=zdr hx (ke ρ 0)
     simp only[SV.den]
     split
     ·rename_i h0
      have hr':(req r ⟨.c 0,0,0⟩).b ρ=true:=by rw[hr];simp[h0,E.i]
      have g:(eqGuard op t xo yo .nilIface .nilIface).run P w= .ok () w:=by
       cases xo<;>cases yo<;>simp[yQ]at hnk<;>cases op<;>simp[eqGuard]
      simp only[Sem.run_bind,g,Result.andThen]
      cases op<;>simp only at h<;>cases h
      ·exact⟨by simp only[SV.den,hr'];exact(kc (wv 9999 hu w)).1,trivial⟩
      ·exact⟨by simp only[SV.den,q7,hr'];exact(kc (wv 9999 hu w)).2,trivial⟩
     ·rename_i h0
      have hr':(req r ⟨.c 0,0,0⟩).b ρ=false:=by rw[hr];simp[h0,E.i]
      have g:(eqGuard op t xo yo (.iface ρ.et (.int .i64 (r.e.i ρ))) .nilIface).run P w= .ok () w:=by
       unfold eqGuard;split<;>simp
      simp only[Sem.run_bind,g,Result.andThen]
      cases op<;>simp only at h<;>cases h
      ·exact⟨by simp only[SV.den,hr'];exact(kc (x6 9999 hu _ _ w)).1,trivial⟩
      ·exact⟨by simp only[SV.den,q7,hr'];exact(kc (x6 9999 hu _ _ w)).2,trivial⟩
    ·cases h
   ·cases h
  ·cases h
 ·cases h
def sUn (op:UnOp) (x:SV):Option SV:=
 match op,x with
 | .neg,.int k a=>some (.int k (znk k ⟨.c 0,0,0⟩ a))
 | .not,.bool a=>some (.bool (jz a))
 |_,_=>none
theorem zml {P:Program} {op:UnOp} {x v:SV} {ρ:Env} {b:Bd} {N:Nat->Prop} (h:sUn op x=some v) (hx:x.ok ρ N) (w:World):(Op.unary op (x.den ρ b)).run P w= .ok (v.den ρ b) w/\v.ok ρ N:=by
 unfold sUn at h
 split at h
 ·cases h
  have:=MV (ρ:=ρ) ‹_› (ke ρ 0) hx
  exact⟨by simp only[SV.den,Op.unary,Op.intArith,this.2];rfl,this.1⟩
 ·cases h
  exact⟨by simp[SV.den,Op.unary,q7],trivial⟩
 ·cases h
def zhL (P:Program) (src dst:TypeId) (x:SV):Option SV:=
 match x with
 | .int _ r=>
   match P.underlying src,P.underlying dst with
   |some _,some (.int k)=>some (.int k (fit k r.e r.lo r.hi))
   |_,_=>none
 |_=>none
theorem zds {P:Program} {src dst:TypeId} {x v:SV} {ρ:Env} {b:Bd} {N:Nat->Prop} (h:zhL P src dst x=some v) (hx:x.ok ρ N) (w:World):(convert src dst (x.den ρ b)).run P w= .ok (v.den ρ b) w/\v.ok ρ N:=by
 unfold zhL at h
 split at h
 ·rename_i k0 r
  split at h
  ·rename_i d k hs hd
   cases h
   have:=wY ρ k r.e r.lo r.hi hx.1 hx.2
   exact⟨by simp[convert,run_underlying hs,run_underlying hd,Conv.intToInt,SV.den,this.2],this.1⟩
  ·cases h
 ·cases h
def mrg (et:TypeId) (d:E):SV->SV->Option SV
 | .int k a,.int j c=>if k=j then some (.int k (Wh d a c))else none
 | .bool a,.bool c=>some (.bool (Gi d a c))
 | .nilp,.nilp=>some .nilp
 | .ptr n o,.ptr m p=>if n=m/\o=p then some (.ptr n o)else none
 | .nils,.nils=>some .nils
 | .sl n o l c,.sl m p k e=>if n=m/\o=p/\l=k/\c=e then some (.sl n o l c)else none
 | .slv n o l,.slv m p k=>if n=m/\o=p/\l.e.same k.e=true/\l.lo=k.lo/\l.hi=k.hi then some (.slv n o l)else none
 | .esl n i,.esl m j=>if n=m/\i.same j=true then some (.esl n i)else none
 | .osl n s l,.osl m t k=>if n=m/\s=t/\l.e.same k.e=true/\l.lo=k.lo/\l.hi=k.hi then some (.osl n s l)else none
 | .nili,.nili=>some .nili
 | .err a,.err c=>some (.err (Wh d a c))
 | .nili,.err c=>some (.err (Wh d ⟨.c 0,0,0⟩ c))
 | .err a,.nili=>some (.err (Wh d a ⟨.c 0,0,0⟩))
 | .ifc t (.int .i64 a),.nili=>if t=et/\1<=a.lo then some (.err (Wh d a ⟨.c 0,0,0⟩))else none
 | .nili,.ifc t (.int .i64 a)=>if t=et/\1<=a.lo then some (.err (Wh d ⟨.c 0,0,0⟩ a))else none
 | .ifc t (.int .i64 a),.err c=>if t=et/\1<=a.lo then some (.err (Wh d a c))else none
 | .err c,.ifc t (.int .i64 a)=>if t=et/\1<=a.lo then some (.err (Wh d c a))else none
 | .ifc t (.int k a),.ifc u (.int j c)=>if t=u/\k=j then some (.ifc t (.int k (Wh d a c)))else none
 | .nilf,.nilf=>some .nilf
 |_,_=>none
end Go.Proofs.YtoakpnoajmngmaaGreatDoor.Sx
namespace Go.Proofs.YtoakpnoajmngmaaGreatDoor.Sx
open Go.RowKit (Below)
theorem Gp {ρ:Env} {b:Bd} {N:Nat->Prop} {a:R} {t:TypeId} (ht:t=ρ.et) (h1:1<=a.lo) (h:(SV.ifc t (.int .i64 a)).ok ρ N):(SV.err a).den ρ b=(SV.ifc t (.int .i64 a)).den ρ b:=by
 have h2:a.ok ρ:=h
 have:a.e.i ρ≠0:=by have:=h2.1;omega
 simp only[SV.den,this,if_false,ht]
theorem zoZ {et:TypeId} {ρ:Env} (he:ρ.et=et) {d:E} (hd:d.b ρ=true) {x y v:SV} (h:mrg et d x y=some v) {b:Bd} {N:Nat->Prop} (hx:x.ok ρ N):v.den ρ b=x.den ρ b/\v.ok ρ N:=by
 unfold mrg at h
 split at h
 ·split at h
  ·cases h
   have hi:=qX ρ d ‹R› ‹R›
   refine⟨?_,xZ hd hx⟩
   simp only[SV.den,qX,hd,if_true]
  ·cases h
 ·cases h;exact⟨by simp only[SV.den,Qy,hd,if_true],trivial⟩
 ·cases h;exact⟨rfl,trivial⟩
 ·split at h
  ·cases h;exact⟨rfl,hx⟩
  ·cases h
 ·cases h;exact⟨rfl,trivial⟩
 ·split at h
  ·cases h;exact⟨rfl,hx⟩
  ·cases h
 ·split at h
  ·cases h;exact⟨rfl,hx⟩
  ·cases h
 ·split at h
  ·cases h;exact⟨rfl,hx⟩
  ·cases h
 ·split at h
  ·cases h;exact⟨rfl,hx⟩
  ·cases h
 ·cases h;exact⟨rfl,trivial⟩
 ·cases h;exact⟨by simp only[SV.den,qX,hd,if_true],xZ hd hx⟩
 ·cases h;exact⟨by simp only[SV.den,qX,hd,if_true,E.i],xZ hd (ke ρ 0)⟩
 ·cases h;exact⟨by simp only[SV.den,qX,hd,if_true],xZ hd hx⟩
 ·split at h
  ·rename_i hc
   cases h
   have hx':R.ok ρ _:=hx
   refine⟨?_,xZ hd hx⟩
   rw[<-Gp (b:=b) (hc.1.trans he.symm) hc.2 hx]
   simp only[SV.den,qX,hd,if_true]
  ·cases h
 ·split at h
  ·cases h
   exact⟨by simp only[SV.den,qX,hd,if_true,E.i],xZ hd (ke ρ 0)⟩
  ·cases h
 ·split at h
  ·rename_i hc
   cases h
   refine⟨?_,xZ hd hx⟩
   rw[<-Gp (b:=b) (hc.1.trans he.symm) hc.2 hx]
   simp only[SV.den,qX,hd,if_true]
  ·cases h
 ·split at h
  ·cases h
   exact⟨by simp only[SV.den,qX,hd,if_true],xZ hd hx⟩
  ·cases h
 ·split at h
  ·cases h
   exact⟨by simp only[SV.den,qX,hd,if_true],xZ hd hx⟩
  ·cases h
 ·cases h;exact⟨rfl,trivial⟩
 ·cases h
theorem zo0 {et:TypeId} {ρ:Env} (he:ρ.et=et) {d:E} (hd:d.b ρ=false) {x y v:SV} (h:mrg et d x y=some v) {b:Bd} {N:Nat->Prop} (hy:y.ok ρ N):v.den ρ b=y.den ρ b/\v.ok ρ N:=by
 have hf:¬(d.b ρ=true):=by rw[hd];simp
 unfold mrg at h
 split at h
 ·split at h
  ·rename_i hk
   cases h
   subst hk
   exact⟨by simp only[SV.den,qX,hf,Bool.false_eq_true,if_false],x4 hd hy⟩
  ·cases h
 ·cases h;exact⟨by simp only[SV.den,Qy,hf,Bool.false_eq_true,if_false],trivial⟩
 ·cases h;exact⟨rfl,trivial⟩
 ·split at h
  ·rename_i hc;cases h;obtain⟨rfl,rfl⟩:=hc;exact⟨rfl,hy⟩
  ·cases h
 ·cases h;exact⟨rfl,trivial⟩
 ·split at h
  ·rename_i hc;cases h;obtain⟨rfl,rfl,rfl,rfl⟩:=hc;exact⟨rfl,hy⟩
  ·cases h
 ·split at h
  ·rename_i n o l m p k hc
   cases h
   obtain⟨rfl,rfl,h3,h4,h5⟩:=hc
   have he:=E.same_eq h3
   obtain⟨y1,y2,y3⟩:=hy
   refine⟨by simp only[SV.den,he],y1,?_,by omega⟩
   have:=y2.1
   have:=y2.2
   unfold R.ok
   rw[he,h4,h5]
   exact y2
  ·cases h
 ·split at h
  ·rename_i n i m j hc
   cases h
   obtain⟨rfl,h3⟩:=hc
   rw[E.same_eq h3]
   exact⟨rfl,hy⟩
  ·cases h
 ·split at h
  ·rename_i n s l m t k hc
   cases h
   obtain⟨rfl,rfl,h3,h4,h5⟩:=hc
   have he:=E.same_eq h3
   obtain⟨y2,y3,y4,y5⟩:=hy
   refine⟨by simp only[SV.den,he],?_,by omega,by rw[he];exact y4,by rw[he];exact y5⟩
   unfold R.ok
   rw[he,h4,h5]
   exact y2
  ·cases h
 ·cases h;exact⟨rfl,trivial⟩
 ·cases h;exact⟨by simp only[SV.den,qX,hf,Bool.false_eq_true,if_false],x4 hd hy⟩
 ·cases h;exact⟨by simp only[SV.den,qX,hf,Bool.false_eq_true,if_false],x4 hd hy⟩
 ·cases h;exact⟨by simp only[SV.den,qX,hf,Bool.false_eq_true,if_false,E.i];simp,x4 hd (ke ρ 0)⟩
 ·split at h
  ·cases h;exact⟨by simp only[SV.den,qX,hf,Bool.false_eq_true,if_false,E.i];simp,x4 hd (ke ρ 0)⟩
  ·cases h
 ·split at h
  ·rename_i hc
   cases h
   refine⟨?_,x4 hd hy⟩
   rw[<-Gp (b:=b) (hc.1.trans he.symm) hc.2 hy]
   simp only[SV.den,qX,hf,Bool.false_eq_true,if_false]
  ·cases h
 ·split at h
  ·cases h
   exact⟨by simp only[SV.den,qX,hf,Bool.false_eq_true,if_false],x4 hd hy⟩
  ·cases h
 ·split at h
  ·rename_i hc
   cases h
   refine⟨?_,x4 hd hy⟩
   rw[<-Gp (b:=b) (hc.1.trans he.symm) hc.2 hy]
   simp only[SV.den,qX,hf,Bool.false_eq_true,if_false]
  ·cases h
 ·split at h
  ·rename_i hc
   cases h
   obtain⟨rfl,rfl⟩:=hc
   exact⟨by simp only[SV.den,qX,hf,Bool.false_eq_true,if_false],x4 hd hy⟩
  ·cases h
 ·cases h;exact⟨rfl,trivial⟩
 ·cases h
def JO {α:Type} (f:α->α->Option α):List α->List α->Option (List α)
 |[],[]=>some []
 |a::l,c::m=>match f a c,JO f l m with
  |some x,some r=>some (x::r)
  |_,_=>none
 |_,_=>none
def zhM (et:TypeId) (d:E):SV->SV->Option SV
 | .agg l,.agg m=>(JO (mrg et d) l m).map .agg
 | .fn f l,.fn g m=>if f=g then(JO (mrg et d) l m).map (.fn f)else none
 | .ifc t (.agg l),.ifc u (.agg m)=>if t=u then(JO (mrg et d) l m).map fun r=> .ifc t (.agg r)else none
 |x,y=>mrg et d x y
def M0 (et:TypeId) (d:E):SV->SV->Option SV
 | .tup l,.tup m=>(JO (zhM et d) l m).map .tup
 |x,y=>zhM et d x y
theorem JP {f:SV->SV->Option SV} {ρ:Env} {b:Bd} {N:Nat->Prop} (hf:∀x y v,f x y=some v->x.ok ρ N->v.den ρ b=x.den ρ b/\v.ok ρ N):∀ {l m r:List SV},JO f l m=some r->SV.okL ρ N l->SV.denL ρ b r=SV.denL ρ b l/\SV.okL ρ N r:=by
 intro l
 induction l with
 |nil=>intro m r h hl;cases m<;>simp[JO]at h;rw[h];exact⟨rfl,trivial⟩
 |cons a l ih=>
  intro m r h hl
  cases m with
  |nil=>simp[JO]at h
  |cons c m=>
   simp only[JO]at h
   split at h
   ·rename_i x r' h1 h2
    cases h
    have e1:=hf a c x h1 hl.1
    have e2:=ih h2 hl.2
    exact⟨by simp only[SV.denL,e1.1,e2.1],e1.2,e2.2⟩
   ·cases h
theorem JQ {f:SV->SV->Option SV} {ρ:Env} {b:Bd} {N:Nat->Prop} (hf:∀x y v,f x y=some v->y.ok ρ N->v.den ρ b=y.den ρ b/\v.ok ρ N):∀ {m l r:List SV},JO f l m=some r->SV.okL ρ N m->SV.denL ρ b r=SV.denL ρ b m/\SV.okL ρ N r:=by
 intro m
 induction m with
 |nil=>intro l r h hl;cases l<;>simp[JO]at h;rw[h];exact⟨rfl,trivial⟩
 |cons c m ih=>
  intro l r h hl
  cases l with
  |nil=>simp[JO]at h
  |cons a l=>
   simp only[JO]at h
   split at h
   ·rename_i x r' h1 h2
    cases h
    have e1:=hf a c x h1 hl.1
    have e2:=ih h2 hl.2
    exact⟨by simp only[SV.denL,e1.1,e2.1],e1.2,e2.2⟩
   ·cases h
theorem M1 {et:TypeId} {ρ:Env} (he:ρ.et=et) {d:E} (hd:d.b ρ=true) {x y v:SV} (h:zhM et d x y=some v) {b:Bd} {N:Nat->Prop} (hx:x.ok ρ N):v.den ρ b=x.den ρ b/\v.ok ρ N:=by
 have hm:=fun x y v (h:mrg et d x y=some v) (hx:x.ok ρ N)=>zoZ he hd h (b:=b) hx
 unfold zhM at h
 split at h
 ·rw[Option.map_eq_some_iff]at h
  obtain⟨r,hr,rfl⟩:=h
  have:=JP hm hr hx
  exact⟨by simp only[SV.den,this.1],this.2⟩
 ·split at h
  ·rw[Option.map_eq_some_iff]at h
   obtain⟨r,hr,rfl⟩:=h
   have:=JP hm hr hx
   exact⟨by simp only[SV.den,this.1],this.2⟩
  ·cases h
 ·split at h
  ·rw[Option.map_eq_some_iff]at h
   obtain⟨r,hr,rfl⟩:=h
   have:=JP hm hr hx
   exact⟨by simp only[SV.den,this.1],this.2⟩
  ·cases h
 ·exact hm _ _ _ h hx
theorem M2 {et:TypeId} {ρ:Env} (he:ρ.et=et) {d:E} (hd:d.b ρ=false) {x y v:SV} (h:zhM et d x y=some v) {b:Bd} {N:Nat->Prop} (hy:y.ok ρ N):v.den ρ b=y.den ρ b/\v.ok ρ N:=by
 have hm:=fun x y v (h:mrg et d x y=some v) (hx:y.ok ρ N)=>zo0 he hd h (b:=b) hx
 unfold zhM at h
 split at h
 ·rw[Option.map_eq_some_iff]at h
  obtain⟨r,hr,rfl⟩:=h
  have:=JQ hm hr hy
  exact⟨by simp only[SV.den,this.1],this.2⟩
 ·split at h
  ·rename_i hc
   subst hc
   rw[Option.map_eq_some_iff]at h
   obtain⟨r,hr,rfl⟩:=h
   have:=JQ hm hr hy
   exact⟨by simp only[SV.den,this.1],this.2⟩
  ·cases h
 ·split at h
  ·rename_i hc
   subst hc
   rw[Option.map_eq_some_iff]at h
   obtain⟨r,hr,rfl⟩:=h
   have:=JQ hm hr hy
   exact⟨by simp only[SV.den,this.1],this.2⟩
  ·cases h
 ·exact hm _ _ _ h hy
theorem M3 {et:TypeId} {ρ:Env} (he:ρ.et=et) {d:E} (hd:d.b ρ=true) {x y v:SV} (h:M0 et d x y=some v) {b:Bd} {N:Nat->Prop} (hx:x.ok ρ N):v.den ρ b=x.den ρ b/\v.ok ρ N:=by
 unfold M0 at h
 split at h
 ·rw[Option.map_eq_some_iff]at h
  obtain⟨r,hr,rfl⟩:=h
  have:=JP (fun x y v h hx=>M1 he hd h (b:=b) hx) hr hx
  exact⟨by simp only[SV.den,this.1],this.2⟩
 ·exact M1 he hd h hx
theorem M4 {et:TypeId} {ρ:Env} (he:ρ.et=et) {d:E} (hd:d.b ρ=false) {x y v:SV} (h:M0 et d x y=some v) {b:Bd} {N:Nat->Prop} (hy:y.ok ρ N):v.den ρ b=y.den ρ b/\v.ok ρ N:=by
 unfold M0 at h
 split at h
 ·rw[Option.map_eq_some_iff]at h
  obtain⟨r,hr,rfl⟩:=h
  have:=JQ (fun x y v h hx=>M2 he hd h (b:=b) hx) hr hy
  exact⟨by simp only[SV.den,this.1],this.2⟩
 ·exact M2 he hd h hy
end Go.Proofs.YtoakpnoajmngmaaGreatDoor.Sx
namespace Go.Proofs.YtoakpnoajmngmaaGreatDoor.Sx
open Go.RowKit (Below)
def zp8 (cs:List SV) (off:Nat) (vs:List SV):List SV:=vs.zipIdx.foldl (fun cs x=>cs.set (off+x.2) x.1) cs
theorem zhN {ρ:Env} {N:Nat->Prop} {cs:List SV} (h:SV.okL ρ N cs) {v:SV} (hv:v.ok ρ N) (i:Nat):SV.okL ρ N (cs.set i v):=
 (qo _ _ _).2 fun x hx=>(List.mem_or_eq_of_mem_set hx).elim ((qo _ _ _).1 h x) (fun e=>e▸hv)
theorem JR {ρ:Env} {N:Nat->Prop} (off:Nat):∀(l:List (SV × Nat)) (cs:List SV),(∀x∈l,x.1.ok ρ N)->SV.okL ρ N cs->SV.okL ρ N (l.foldl (fun cs x=>cs.set (off+x.2) x.1) cs):=by
 intro l
 induction l with
 |nil=>exact fun cs _ h=>h
 |cons a l ih=>exact fun cs hl h=>ih _ (fun x hx=>hl x (.tail _ hx)) (zhN h (hl a (.head _)) _)
theorem zhO {ρ:Env} {N:Nat->Prop} {cs vs:List SV} (off:Nat) (h:SV.okL ρ N cs) (hv:SV.okL ρ N vs):SV.okL ρ N (zp8 cs off vs):=
 JR off _ _ (fun x hx=>(qo _ _ _).1 hv _ (by have:=List.mem_zipIdx hx;obtain⟨_,_,e⟩:=this;rw[e];exact List.getElem_mem _)) h
theorem QC (ρ:Env) (b:Bd) (off:Nat):∀(l:List (SV × Nat)) (cs:List SV),(l.map fun x=>(x.1.den ρ b,x.2)).foldl (fun(cs:Array Value) x=>cs.setIfInBounds (off+x.2) x.1) (SV.denL ρ b cs).toArray=(SV.denL ρ b (l.foldl (fun cs x=>cs.set (off+x.2) x.1) cs)).toArray:=by
 intro l
 induction l with
 |nil=>exact fun cs=>rfl
 |cons a l ih=>
  intro cs
  simp only[List.map_cons,List.foldl_cons]
  rw[<-ih]
  congr 1
  rw[zW,zW,List.map_set]
  simp
theorem VA (ρ:Env) (b:Bd) (vs:List SV):(SV.denL ρ b vs).zipIdx=vs.zipIdx.map fun x=>(x.1.den ρ b,x.2):=by
 rw[zW,List.zipIdx_map];rfl
def x7:SV->Bool
 | .agg _=>true
 |v=>v.isOne
theorem xF {v:SV} (h:x7 v=true):v.isOne=true\/∃l,v= .agg l:=by
 cases v<;>simp[x7]at h<;>first|exact .inl h|exact .inr ⟨_,rfl⟩
def VB (place:Nat->Option (Nat × Nat)) (cells:List SV):List (Nat × SV)->Option (List SV)
 |[]=>some cells
 |(i,v)::rest=>
  match place i with
  |none=>none
  |some (off,size)=>if x7 v=true/\v.cells.length=size/\off+v.cells.length<=cells.length then VB place (zp8 cells off v.cells) rest else none
theorem QD {place:Nat->Option (Nat × Nat)} {ρ:Env} {b:Bd} {N:Nat->Prop}:∀(parts:List (Nat × SV)) (cells r:List SV),VB place cells parts=some r->SV.okL ρ N cells->(∀x∈parts,x.2.ok ρ N)->
  Instr.fill place (SV.denL ρ b cells).toArray (parts.map fun x=>(x.1,x.2.den ρ b))=some (SV.denL ρ b r).toArray/\SV.okL ρ N r:=by
 intro parts
 induction parts with
 |nil=>intro cells r h hk _;cases h;exact⟨rfl,hk⟩
 |cons a rest ih=>
  obtain⟨i,v⟩:=a
  intro cells r h hk hp
  simp only[VB]at h
  simp only[List.map_cons,Instr.fill]
  cases hpl:place i with
  |none=>rw[hpl]at h;cases h
  |some os=>
   obtain⟨off,size⟩:=os
   rw[hpl]at h
   dsimp only at h ⊢
   split at h
   ·rename_i hc
    obtain⟨h1,h2,h3⟩:=hc
    have hv:v.ok ρ N:=hp _ (.head _)
    have hcell:=SV.cells_den ρ b (xF h1)
    rw[hcell]
    have hlen:(SV.denL ρ b v.cells).toArray.size=v.cells.length:=by simp[zk]
    have hlen2:(SV.denL ρ b cells).toArray.size=cells.length:=by simp[zk]
    have hcn:¬((decide (v.cells.length≠size)||decide (off+v.cells.length>cells.length))=true):=by simp;omega
    rw[hlen,hlen2,if_neg hcn]
    have:=ih _ r h (zhO off hk (SV.cells_ok hv)) (fun x hx=>hp x (.tail _ hx))
    rw[<-this.1]
    refine⟨?_,this.2⟩
    congr 1
    rw[Array.zipIdx_toArray,VA,List.foldl_toArray]
    exact QC ρ b off v.cells.zipIdx cells
   ·cases h
def mb (A:List E) (S:St):List (Nat × Operand)->Option (List (Nat × SV))
 |[]=>some []
 |(i,x)::l=>match ev A S x,mb A S l with
  |some v,some r=>some ((i,v)::r)
  |_,_=>none
theorem Zs {ρ:Env} {b:Bd} {base:Nat->Prop} {w0 w:World} {S:St} {a:Act} {A:List E} (h:Rel ρ b base w0 w S a.tmps) (hA:qq ρ A):∀ {l:List (Nat × Operand)} {r:List (Nat × SV)},mb A S l=some r->
  (l.map fun x=>(x.1,a.eval x.2))=(r.map fun x=>(x.1,x.2.den ρ b))/\∀x∈r,x.2.ok ρ (· <S.next):=by
 intro l
 induction l with
 |nil=>intro r h;cases h;exact⟨rfl,fun _ h=>by cases h⟩
 |cons p l ih=>
  obtain⟨i,x⟩:=p
  intro r hr
  simp only[mb]at hr
  split at hr
  ·rename_i v r' h1 h2
   cases hr
   have e1:=qf h hA h1
   have e2:=ih h2
   refine⟨by simp only[List.map_cons,e1.1,e2.1],fun x hx=>?_⟩
   cases hx with
   |head=>exact e1.2
   |tail _ hx=>exact e2.2 x hx
  ·cases hr
def evs (A:List E) (S:St):List Operand->Option (List SV)
 |[]=>some []
 |x::l=>match ev A S x,evs A S l with
  |some v,some r=>some (v::r)
  |_,_=>none
theorem JS {ρ:Env} {b:Bd} {base:Nat->Prop} {w0 w:World} {S:St} {a:Act} {A:List E} (h:Rel ρ b base w0 w S a.tmps) (hA:qq ρ A):∀ {l:List Operand} {r:List SV},evs A S l=some r->
  (l.map a.eval)=SV.denL ρ b r/\SV.okL ρ (· <S.next) r:=by
 intro l
 induction l with
 |nil=>intro r h;cases h;exact⟨rfl,trivial⟩
 |cons x l ih=>
  intro r hr
  simp only[evs]at hr
  split at hr
  ·rename_i v r' h1 h2
   cases hr
   have e1:=qf h hA h1
   have e2:=ih h2
   exact⟨by simp only[List.map_cons,e1.1,e2.1,SV.denL],e1.2,e2.2⟩
  ·cases hr
def M5 (P:Program) (t:TypeId):Option Value:=(P.info? t).bind (·.zero)
theorem yR {P:Program} {t:TypeId} {z:Value} (h:M5 P t=some z) (w:World):(zeroValue t).run P w= .ok z w:=by
 unfold M5 at h
 cases hi:P.info? t with
 |none=>rw[hi]at h;cases h
 |some i=>
  rw[hi]at h
  have h':i.zero=some z:=h
  simp[zeroValue,typeInfo,hi,h']
def VD (z:Value):List SV:=z.cells.toList.map SV.ofValue
theorem mc (ρ:Env) (b:Bd) (z:Value):(SV.denL ρ b (VD z)).toArray=z.cells:=by
 rw[VD,zW,List.map_map]
 have:(SV.den ρ b∘SV.ofValue)=id:=funext fun v=>SV.ofValue_den ρ b v
 rw[this];simp
theorem QE (ρ:Env) (N:Nat->Prop) (z:Value):SV.okL ρ N (VD z):=
 (qo _ _ _).2 fun v hv=>by
  obtain⟨x,_,rfl⟩:=List.mem_map.1 hv
  exact SV.ofValue_ok ρ N x
def QF (P:Program):List Field->Option (List (Nat × Nat))
 |[]=>some []
 |f::l=>match yu P f.type,QF P l with
  |some n,some r=>some ((f.offset,n)::r)
  |_,_=>none
theorem VE {P:Program} (w:World):∀ {l:List Field} {r:List (Nat × Nat)},QF P l=some r->(l.mapM fun f=>do pure (f.offset,<-sizeOf f.type):Sem (List (Nat × Nat))).run P w= .ok r w:=by
 intro l
 induction l with
 |nil=>intro r h;cases h;rfl
 |cons f l ih=>
  intro r h
  simp only[QF]at h
  split at h
  ·rename_i n r' h1 h2
   cases h
   simp only[List.mapM_cons,Sem.run_bind,qi h1,Result.andThen,ih h2,Sem.run_pure]
  ·cases h
def M6 (P:Program) (t:TypeId) (parts:List (Nat × SV)):Option SV:=
 match M5 P t,P.underlying t with
 |some z,some (.struct fields)=>
  match QF P fields.toList with
  |some pl=>(VB (pl[·]?) (VD z) parts).map .agg
  |none=>none
 |some z,some (.array _ e)=>
  match yu P e with
  |some n=>(VB (fun i=>some (i*n,n)) (VD z) parts).map .agg
  |none=>none
 |_,_=>none
theorem M7 {P:Program} {t:TypeId} {parts:List (Nat × SV)} {v:SV} (h:M6 P t parts=some v) {ρ:Env} {b:Bd} {N:Nat->Prop} (hp:∀x∈parts,x.2.ok ρ N) (w:World) (ps:Array (Nat × Value)) (hps:ps.toList=parts.map fun x=>(x.1,x.2.den ρ b)):
  (Instr.build t ps).run P w= .ok (v.den ρ b) w/\v.ok ρ N:=by
 unfold M6 at h
 split at h
 ·rename_i z fields hz hu
  split at h
  ·rename_i pl hpl
   rw[Option.map_eq_some_iff]at h
   obtain⟨r,hr,rfl⟩:=h
   have hf:=QD (b:=b) parts _ _ hr (QE ρ N z) hp
   rw[mc]at hf
   refine⟨?_,hf.2⟩
   have hpl2:(fields.mapM fun f=>do pure (f.offset,<-sizeOf f.type):Sem (Array (Nat × Nat))).run P w= .ok pl.toArray w:=by
    rw[Array.mapM_eq_mapM_toList]
    simp only[Sem.run_map,VE w hpl,Result.andThen]
   simp only[Instr.build,Sem.run_bind,yR hz,Result.andThen,run_underlying hu,hpl2]
   have e:(fun(x:Nat)=>pl.toArray[x]?)=(fun x=>pl[x]?):=by funext x;simp
   simp only[e,hps,hf.1]
   rfl
  ·cases h
 ·rename_i z n' e hz hu
  split at h
  ·rename_i n hn
   rw[Option.map_eq_some_iff]at h
   obtain⟨r,hr,rfl⟩:=h
   have hf:=QD (b:=b) parts _ _ hr (QE ρ N z) hp
   rw[mc]at hf
   refine⟨?_,hf.2⟩
   simp only[Instr.build,Sem.run_bind,yR hz,Result.andThen,run_underlying hu,qi hn,hps,hf.1]
   rfl
  ·cases h
 ·cases h
end Go.Proofs.YtoakpnoajmngmaaGreatDoor.Sx
namespace Go.Proofs.YtoakpnoajmngmaaGreatDoor.Sx
open Go.RowKit (Below)
def JT (P:Program) (s:TypeId) (i:Nat):Option Field:=
 match P.underlying s with
 |some (.struct fields)=>fields[i]?
 |_=>none
def M8 (P:Program) (t:TypeId) (x:SV) (i:Nat):Option SV:=
 match x,JT P t i with
 | .agg cs,some f=>g8 P f.type cs f.offset
 |_,_=>none
theorem M9 {P:Program} {t:TypeId} {x v:SV} {i:Nat} (h:M8 P t x i=some v) {ρ:Env} {b:Bd} {N:Nat->Prop} (hx:x.ok ρ N) (w:World):(Instr.field t (x.den ρ b) i).run P w= .ok (v.den ρ b) w/\v.ok ρ N:=by
 unfold M8 at h
 split at h
 ·rename_i cs f hf
  have hp:=yP h (b:=b) hx w
  unfold JT at hf
  split at hf
  ·rename_i fields hu
   exact⟨by simp[Instr.field,run_underlying hu,hf,SV.den,asAgg,hp.1],hp.2⟩
  ·cases hf
 ·cases h
def g9 (P:Program) (s:TypeId) (x:SV) (i:Nat):Option SV:=
 match x,JT P s i with
 | .ptr n off,some f=>match yu P f.type with
   |some 0=>none
   |some _=>some (.ptr n (off+f.offset))
   |none=>none
 | .optr k sh j off,some f=>match yu P f.type with
   |some 0=>none
   |some _=>some (.optr k sh j (off+f.offset))
   |none=>none
 |_,_=>none
theorem kf (β o off k:Nat):(⟨β,o+off,none⟩:Addr).add k=⟨β,o+(off+k),none⟩:=by
 unfold Addr.add
 split
 ·rename_i h;subst h;rfl
 ·simp[Nat.add_assoc]
theorem QG {P:Program} {s:TypeId} {x v:SV} {i:Nat} (h:g9 P s x i=some v) {ρ:Env} {b:Bd} {N:Nat->Prop} (hx:x.ok ρ N) (w:World):(Instr.fieldAt s (x.den ρ b) i).run P w= .ok (v.den ρ b) w/\v.ok ρ N:=by
 unfold g9 at h
 split at h
 ·rename_i n off f hf
  unfold JT at hf
  split at hf
  ·rename_i fields hu
   split at h
   ·cases h
   ·rename_i sz hne hs
    cases h
    refine⟨?_,hx⟩
    have h0:¬sz=0:=fun e=>hne e
    simp[Instr.fieldAt,run_underlying hu,hf,SV.den,Instr.sureAddr,fieldPlace,qi hs,h0,kf]
   ·cases h
  ·cases hf
 ·rename_i k sh j off f hf
  unfold JT at hf
  split at hf
  ·rename_i fields hu
   split at h
   ·cases h
   ·rename_i sz hne hs
    cases h
    have h0:¬sz=0:=fun e=>hne e
    refine⟨?_,hx⟩
    obtain⟨p,o,hov⟩:=hx.2.2.2
    simp[Instr.fieldAt,run_underlying hu,hf,SV.den,Instr.sureAddr,fieldPlace,qi hs,h0,hov,kf,Nat.add_assoc]
   ·cases h
  ·cases hf
 ·cases h
def Yr (x:SV) (len:Nat):Option Nat:=
 match x with
 | .int _ r=>if r.lo=r.hi/\0<=r.lo/\r.lo<len then some r.lo.toNat else none
 |_=>none
theorem x8 {x:SV} {len i:Nat} (h:Yr x len=some i) {ρ:Env} {b:Bd} {N:Nat->Prop} (hx:x.ok ρ N):i<len/\∃k,x.den ρ b= .int k (i:Int):=by
 unfold Yr at h
 split at h
 ·rename_i k r
  split at h
  ·rename_i hc
   cases h
   obtain⟨h1,h2,h3⟩:=hc
   have:r.e.i ρ=r.lo:=by have:=hx.1;have:=hx.2;omega
   exact⟨by omega,k,by simp only[SV.den,this];congr 1;omega⟩
  ·cases h
 ·cases h
def yS (P:Program) (t:TypeId) (x ix:SV):Option SV:=
 match x,P.underlying t with
 | .ptr n off,some (.array len e)=>match Yr ix len,yu P e with
   |some i,some s=>some (.ptr n (off+i*s))
   |_,_=>none
 | .sl n off len _,some (.slice e)=>match Yr ix len,yu P e with
   |some i,some s=>some (.ptr n (off+i*s))
   |_,_=>none
 | .slv n off len,some (.slice e)=>match Yr ix len.lo.toNat,yu P e with
   |some i,some s=>some (.ptr n (off+i*s))
   |_,_=>none
 | .optr k sh j off,some (.array len e)=>match Yr ix len,yu P e with
   |some i,some s=>some (.optr k sh j (off+i*s))
   |_,_=>none
 |_,_=>none
theorem x9 {P:Program} {t:TypeId} {x ix v:SV} (h:yS P t x ix=some v) {ρ:Env} {b:Bd} {N:Nat->Prop} (hx:x.ok ρ N) (hi:ix.ok ρ N) (w:World):(Instr.indexAt t (x.den ρ b) (ix.den ρ b)).run P w= .ok (v.den ρ b) w/\v.ok ρ N:=by
 unfold yS at h
 split at h
 ·rename_i n off len e hu
  split at h
  ·rename_i i s h1 h2
   cases h
   obtain⟨hl,k,hk⟩:=x8 h1 (b:=b) hi
   refine⟨?_,hx⟩
   have hc:(0:Int)<=i/\(i:Int)<len:=by omega
   simp[Instr.indexAt,run_underlying hu,hk,asIntOf,SV.den,Instr.sureAddr,qi h2,hl,kf]
  ·cases h
 ·rename_i n off len cap e hu
  split at h
  ·rename_i i s h1 h2
   cases h
   obtain⟨hl,k,hk⟩:=x8 h1 (b:=b) hi
   refine⟨?_,hx⟩
   simp[Instr.indexAt,run_underlying hu,hk,asIntOf,SV.den,qi h2,hl,kf]
  ·cases h
 ·rename_i n off len e hu
  split at h
  ·rename_i i s h1 h2
   cases h
   obtain⟨hl,k,hk⟩:=x8 h1 (b:=b) hi
   obtain⟨x1,x2,x3⟩:=hx
   have hl2:i<(len.e.i ρ).toNat:=by have:=x2.1;omega
   refine⟨?_,x1⟩
   simp[Instr.indexAt,run_underlying hu,hk,asIntOf,SV.den,qi h2,hl2,kf]
   try omega
  ·cases h
 ·rename_i k sh j off len e hu
  split at h
  ·rename_i i s h1 h2
   cases h
   obtain⟨hl,k,hk⟩:=x8 h1 (b:=b) hi
   obtain⟨p,o,hov⟩:=hx.2.2.2
   refine⟨?_,hx⟩
   have hc:(0:Int)<=i/\(i:Int)<len:=by omega
   simp[Instr.indexAt,run_underlying hu,hk,asIntOf,SV.den,hov,Instr.sureAddr,qi h2,hl,kf,Nat.add_assoc]
  ·cases h
 ·cases h
def Gq (P:Program) (t:TypeId) (x ix:SV):Option SV:=
 match x,P.underlying t with
 | .agg cs,some (.array len e)=>match Yr ix len,yu P e with
   |some i,some s=>g8 P e cs (i*s)
   |_,_=>none
 |_,_=>none
theorem JU {P:Program} {t:TypeId} {x ix v:SV} (h:Gq P t x ix=some v) {ρ:Env} {b:Bd} {N:Nat->Prop} (hx:x.ok ρ N) (hi:ix.ok ρ N) (w:World):(Instr.index t (x.den ρ b) (ix.den ρ b)).run P w= .ok (v.den ρ b) w/\v.ok ρ N:=by
 unfold Gq at h
 split at h
 ·rename_i cs len e hu
  split at h
  ·rename_i i s h1 h2
   obtain⟨hl,k,hk⟩:=x8 h1 (b:=b) hi
   have hp:=yP h (b:=b) hx w
   refine⟨?_,hp.2⟩
   simp[Instr.index,run_underlying hu,hk,asIntOf,SV.den,qi h2,hl,hp.1]
  ·cases h
 ·cases h
def zo1 (P:Program) (t:TypeId) (x:SV):Option SV:=
 match x,P.underlying t with
 | .sl _ _ n _,some (.slice _)=>some (.int .i64 ⟨.c n,n,n⟩)
 | .slv _ _ n,some (.slice _)=>some (.int .i64 n)
 | .osl _ _ n,some (.slice _)=>some (.int .i64 n)
 | .esl id i,some (.slice _)=>some (.int .i64 ⟨.ap id (.cons i .nil),0,9223372036854775807⟩)
 | .emp _,some (.slice _)=>some (.int .i64 ⟨.c 0,0,0⟩)
 | .nils,some (.slice _)=>some (.int .i64 ⟨.c 0,0,0⟩)
 |_,some (.array n _)=>some (.int .i64 ⟨.c n,n,n⟩)
 |_,_=>none
theorem zhP {P:Program} {t ty:TypeId} {x v:SV} (h:zo1 P t x=some v) {ρ:Env} {b:Bd} {N:Nat->Prop} (hx:x.ok ρ N) (w:World):(Builtin.len_ #[t] ty #[x.den ρ b]).run P w= .ok (v.den ρ b) w/\v.ok ρ N:=by
 unfold zo1 at h
 split at h
 ·rename_i hu
  cases h
  exact⟨by simp[Builtin.len_,run_underlying hu,SV.den,goInt,E.i],ke ρ _⟩
 ·rename_i hu
  cases h
  obtain⟨x1,x2,x3⟩:=hx
  refine⟨?_,x2⟩
  simp[Builtin.len_,run_underlying hu,SV.den,goInt]
  have:=x2.1
  omega
 ·rename_i hu
  cases h
  obtain⟨x2,x3,_⟩:=hx
  refine⟨?_,x2⟩
  simp[Builtin.len_,run_underlying hu,SV.den,goInt]
  have:=x2.1
  omega
 ·rename_i hu
  cases h
  obtain⟨x2,x3⟩:=hx
  refine⟨?_,?_⟩
  ·simp[Builtin.len_,run_underlying hu,SV.den,Env.slc,goInt,E.i,E.l,x2]
  ·simp only[SV.ok,R.ok,E.i,E.l,x2];omega
 ·rename_i hu
  cases h
  exact⟨by simp[Builtin.len_,run_underlying hu,SV.den,goInt,E.i],ke ρ _⟩
 ·rename_i hu
  cases h
  exact⟨by simp[Builtin.len_,run_underlying hu,SV.den,goInt,E.i],ke ρ _⟩
 ·rename_i hu
  cases h
  exact⟨by simp[Builtin.len_,run_underlying hu,SV.den,goInt,E.i],ke ρ _⟩
 ·cases h
def md (f:R->R->R):SV->List SV->Option SV
 |v,[]=>some v
 | .int k a,.int j c::l=>if k=j then md f (.int k (f a c)) l else none
 |_,_=>none
theorem zhQ {ρ:Env} {b:Bd} {N:Nat->Prop} {P:Program} (w:World):∀(l:List SV) (x v:SV),md zmh x l=some v->x.ok ρ N->SV.okL ρ N l->((SV.denL ρ b l).foldlM Builtin.min2 (x.den ρ b):Sem Value).run P w= .ok (v.den ρ b) w/\v.ok ρ N:=by
 intro l
 induction l with
 |nil=>intro x v h hx _;cases h;exact⟨rfl,hx⟩
 |cons y l ih=>
  intro x v h hx hl
  unfold md at h
  split at h
  ·rename_i he;cases he
  ·rename_i k a j c l' he
   cases he
   split at h
   ·rename_i hk
    subst hk
    have hm:=zhI hx hl.1
    have:=ih _ v h hm.1 hl.2
    refine⟨?_,this.2⟩
    rw[<-this.1]
    have e:(if c.e.i ρ<a.e.i ρ then c.e.i ρ else a.e.i ρ)=min (a.e.i ρ) (c.e.i ρ):=by split<;>omega
    simp only[SV.denL,SV.den,List.foldlM_cons,Sem.run_bind,Builtin.min2,Sem.run_pure,Result.andThen,e,hm.2]
   ·cases h
  ·cases h
theorem zhR {ρ:Env} {b:Bd} {N:Nat->Prop} {P:Program} (w:World):∀(l:List SV) (x v:SV),md zmi x l=some v->x.ok ρ N->SV.okL ρ N l->((SV.denL ρ b l).foldlM Builtin.max2 (x.den ρ b):Sem Value).run P w= .ok (v.den ρ b) w/\v.ok ρ N:=by
 intro l
 induction l with
 |nil=>intro x v h hx _;cases h;exact⟨rfl,hx⟩
 |cons y l ih=>
  intro x v h hx hl
  unfold md at h
  split at h
  ·rename_i he;cases he
  ·rename_i k a j c l' he
   cases he
   split at h
   ·rename_i hk
    subst hk
    have hm:=zhJ hx hl.1
    have:=ih _ v h hm.1 hl.2
    refine⟨?_,this.2⟩
    rw[<-this.1]
    have e:(if c.e.i ρ>a.e.i ρ then c.e.i ρ else a.e.i ρ)=max (a.e.i ρ) (c.e.i ρ):=by split<;>omega
    simp only[SV.denL,SV.den,List.foldlM_cons,Sem.run_bind,Builtin.max2,Sem.run_pure,Result.andThen,e,hm.2]
   ·cases h
  ·cases h
def sNil:SV->Option SV
 | .ptr n off=>some (.ptr n off)
 | .ifc t v=>some (.ifc t v)
 | .fn f l=>some (.fn f l)
 |_=>none
def opV (P:Program) (et:TypeId) (A:List E) (S:St) (o:Oper):Option SV:=
 match o.op with
 | .move x=>ev A S x
 | .assign x=>ev A S x
 | .pick c x y=>
   match ev A S c with
   |some (.bool (.bc true))=>ev A S x
   |some (.bool (.bc false))=>ev A S y
   |some (.bool d)=>match ev (d::A) S x,ev (jz d::A) S y with
    |some u,some v=>zhM et d u v
    |_,_=>none
   |_=>none
 | .build t parts=>(mb A S parts.toList).bind (M6 P t)
 | .load t x=>match ev A S x with
   |some (.ptr n off)=>match MX A S n with
    |some B=>g8 P t B.cells off
    |none=>none
   |some (.optr k sh i off)=>if sh=[]then none else g8 P t (sh.zipIdx.map fun c=>c.1.sv k c.2 i.e) off
   |_=>none
 | .nilCheck x=>(ev A S x).bind sNil
 | .binOp op t x y _=>match ev A S x,ev A S y with
   |some u,some v=>zoY P op t (yQ x||yQ y) u v
   |_,_=>none
 | .unOp op _ x=>(ev A S x).bind (sUn op)
 | .convert s d x=>(ev A S x).bind (zhL P s d)
 | .makeInterface t x=>match P.underlying t,ev A S x with
   |some (.interface _),_=>none
   |some _,some v=>some (.ifc t v)
   |_,_=>none
 | .makeFunc (.func f) first captured=>if first.isEmpty then(evs A S captured.toList).map (.fn f)else none
 | .fieldAddr s x i=>(ev A S x).bind fun v=>g9 P s v i
 | .field t x i=>(ev A S x).bind fun v=>M8 P t v i
 | .indexAddr t x i=>match ev A S x,ev A S i with
   |some u,some v=>yS P t u v
   |_,_=>none
 | .index t x i=>match ev A S x,ev A S i with
   |some u,some v=>Gq P t u v
   |_,_=>none
 | .extract x i=>match ev A S x with
   |some (.tup l)=>l[i]?
   |_=>none
 | .call {callee:= .builtin .len,args:=args,argTypes:=ts}=>match args.toList,ts.toList with
   |[x],[t]=>(ev A S x).bind (zo1 P t)
   |_,_=>none
 | .call {callee:= .builtin .min,args:=args,argTypes:=_}=>match evs A S args.toList with
   |some (x::l)=>md zmh x l
   |_=>none
 | .call {callee:= .builtin .max,args:=args,argTypes:=_}=>match evs A S args.toList with
   |some (x::l)=>md zmi x l
   |_=>none
 |_=>none
theorem zmm {P:Program} {et:TypeId} {ρ:Env} (he:ρ.et=et) {b:Bd} {base:Nat->Prop} {w0 w:World} {S:St} {a:Act} {A:List E} (h:Rel ρ b base w0 w S a.tmps) (hA:qq ρ A) {o:Oper} {v:SV} (ho:opV P et A S o=some v):
  (execOp a.eval o).run P w= .ok (.value (v.den ρ b)) w/\v.ok ρ (· <S.next):=by
 unfold opV at ho
 split at ho
 ·rename_i x hop
  have:=qf h hA ho
  exact⟨by simp[execOp,hop,this.1],this.2⟩
 ·rename_i x hop
  have:=qf h hA ho
  exact⟨by simp[execOp,hop,this.1],this.2⟩
 ·rename_i c x y hop
  split at ho
  ·rename_i hc
   have e1:=qf h hA hc
   have e2:=qf h hA ho
   exact⟨by simp[execOp,hop,e1.1,e2.1,SV.den,asBool,E.b],e2.2⟩
  ·rename_i hc
   have e1:=qf h hA hc
   have e2:=qf h hA ho
   exact⟨by simp[execOp,hop,e1.1,e2.1,SV.den,asBool,E.b],e2.2⟩
  ·rename_i d _ _ hc
   have e1:=qf h hA hc
   split at ho
   ·rename_i u u' hu hv
    by_cases hd:d.b ρ=true
    ·have e2:=qf h (A:=d::A) (by intro e he;cases he with|head=>exact hd|tail _ he=>exact hA e he) hu
     have e3:=M1 he hd ho (b:=b) e2.2
     exact⟨by simp[execOp,hop,e1.1,e2.1,SV.den,asBool,hd,e3.1],e3.2⟩
    ·have hd':d.b ρ=false:=by simpa using hd
     have e2:=qf h (A:=jz d::A) (by intro e he;cases he with|head=>rw[q7,hd'];rfl|tail _ he=>exact hA e he) hv
     have e3:=M2 he hd' ho (b:=b) e2.2
     exact⟨by simp[execOp,hop,e1.1,e2.1,SV.den,asBool,hd',e3.1],e3.2⟩
   ·cases ho
  ·cases ho
 ·rename_i t parts hop
  rw[Option.bind_eq_some_iff]at ho
  obtain⟨ps,h1,h2⟩:=ho
  have e1:=Zs h hA h1
  have:=M7 h2 (b:=b) e1.2 w (parts.map fun(i,x)=>(i,a.eval x)) (by rw[Array.toList_map];exact e1.1)
  exact⟨by simp[execOp,hop,this.1],this.2⟩
 ·rename_i t x hop
  split at ho
  ·rename_i n off hx
   split at ho
   ·rename_i B hB
    have e1:=qf h hA hx
    have e2:=Qz h hA hB
    have:=QB ho (b:=b) e2.2.2 (w:=w) (a:=⟨b.β n,b.o n+off,none⟩) (fun i u hu=>by
     rw[kf]
     exact Blk.ok.cell e2.2.1 hu)
    exact⟨by simp[execOp,hop,e1.1,SV.den,Instr.loadAt,Instr.sureAddr,this.1],this.2⟩
   ·cases ho
  ·rename_i k sh i off hx
   split at ho
   ·cases ho
   ·have e1:=qf h hA hx
    obtain⟨_,h0,hel,p,o',hov⟩:=e1.2
    have hk:SV.okL ρ (· <S.next) (sh.zipIdx.map fun c=>c.1.sv k c.2 i.e):=(qo _ _ _).2 fun v hv=>by
     obtain⟨⟨c,j⟩,hc,rfl⟩:=List.mem_map.1 hv
     have:=List.mem_zipIdx_iff_getElem?.1 hc
     refine CK.sv_ok ?_
     have:=(hel j c this).2
     rwa[Int.toNat_of_nonneg h0]at this
    have:=QB ho (b:=b) hk (w:=w) (a:=⟨p,o'+((i.e.i ρ).toNat*sh.length+off),none⟩) (fun n u hu=>by
     rw[List.getElem?_map]at hu
     cases hz:(sh.zipIdx)[off+n]? with
     |none=>rw[hz]at hu;cases hu
     |some c=>
      rw[hz]at hu
      cases hu
      rw[List.getElem?_zipIdx]at hz
      cases hs:sh[off+n]? with
      |none=>rw[hs]at hz;cases hz
      |some d=>
       rw[hs]at hz
       cases hz
       obtain⟨hv,_⟩:=hel (off+n) d hs
       obtain⟨p',off',g1,g2,g3⟩:=(h.kept.kept h.below).1 k _ _ hv
       rw[hov]at g1
       cases g1
       rw[kf]
       rw[CK.sv_den]
       rw[Int.toNat_of_nonneg h0]at g3
       simpa [Nat.add_assoc]using g3)
    exact⟨by simp[execOp,hop,e1.1,SV.den,hov,Instr.loadAt,Instr.sureAddr,this.1],this.2⟩
  ·cases ho
 ·rename_i x hop
  rw[Option.bind_eq_some_iff]at ho
  obtain⟨u,h1,h2⟩:=ho
  have e1:=qf h hA h1
  unfold sNil at h2
  split at h2<;>cases h2
  ·exact⟨by simp[execOp,hop,e1.1,SV.den],e1.2⟩
  ·exact⟨by simp[execOp,hop,e1.1,SV.den],e1.2⟩
  ·exact⟨by simp[execOp,hop,e1.1,SV.den],e1.2⟩
 ·rename_i op t x y yt hop
  split at ho
  ·rename_i u u' hu hv
   have e1:=qf h hA hu
   have e2:=qf h hA hv
   have:=zhK (yt:=yt) ho (b:=b) e1.2 e2.2 w
   refine⟨?_,this.2⟩
   have h3:=this.1
   rw[Sem.run_bind]at h3
   simp only[execOp,hop,e1.1,e2.1,Sem.run_bind]
   rw[h3]
   rfl
  ·cases ho
 ·rename_i op t x hop
  rw[Option.bind_eq_some_iff]at ho
  obtain⟨u,h1,h2⟩:=ho
  have e1:=qf h hA h1
  have:=zml (P:=P) h2 (b:=b) e1.2 w
  exact⟨by simp[execOp,hop,e1.1,this.1],this.2⟩
 ·rename_i s d x hop
  rw[Option.bind_eq_some_iff]at ho
  obtain⟨u,h1,h2⟩:=ho
  have e1:=qf h hA h1
  have:=zds h2 (b:=b) e1.2 w
  exact⟨by simp[execOp,hop,e1.1,this.1],this.2⟩
 ·rename_i t x hop
  split at ho
  ·cases ho
  ·rename_i d u hne hu hx
   cases ho
   have e1:=qf h hA hx
   refine⟨?_,e1.2⟩
   cases d<;>first
    |exact(hne _ rfl).elim
    |simp[execOp,hop,e1.1,Instr.makeInterface,run_underlying hu,SV.den]
  ·cases ho
 ·rename_i f first captured hop
  split at ho
  ·rename_i hf
   rw[Option.map_eq_some_iff]at ho
   obtain⟨l,h1,rfl⟩:=ho
   have e1:=JS h hA h1
   refine⟨?_,e1.2⟩
   have hfe:first=#[]:=by simpa using hf
   have hc:captured.map a.eval=(SV.denL ρ b l).toArray:=by
    apply Array.ext'
    simpa using e1.1
   simp[execOp,hop,Instr.makeFunc,SV.den,hfe,hc]
  ·cases ho
 ·rename_i s x i hop
  rw[Option.bind_eq_some_iff]at ho
  obtain⟨u,h1,h2⟩:=ho
  have e1:=qf h hA h1
  have:=QG h2 (b:=b) e1.2 w
  exact⟨by simp[execOp,hop,e1.1,this.1],this.2⟩
 ·rename_i t x i hop
  rw[Option.bind_eq_some_iff]at ho
  obtain⟨u,h1,h2⟩:=ho
  have e1:=qf h hA h1
  have:=M9 h2 (b:=b) e1.2 w
  exact⟨by simp[execOp,hop,e1.1,this.1],this.2⟩
 ·rename_i t x i hop
  split at ho
  ·rename_i u u' hu hv
   have e1:=qf h hA hu
   have e2:=qf h hA hv
   have:=x9 ho (b:=b) e1.2 e2.2 w
   exact⟨by simp[execOp,hop,e1.1,e2.1,this.1],this.2⟩
  ·cases ho
 ·rename_i t x i hop
  split at ho
  ·rename_i u u' hu hv
   have e1:=qf h hA hu
   have e2:=qf h hA hv
   have:=JU ho (b:=b) e1.2 e2.2 w
   exact⟨by simp[execOp,hop,e1.1,e2.1,this.1],this.2⟩
  ·cases ho
 ·rename_i x i hop
  split at ho
  ·rename_i l hx
   have e1:=qf h hA hx
   refine⟨?_,ka e1.2 ho⟩
   simp[execOp,hop,e1.1,SV.den,Instr.extract,qm,ho]
  ·cases ho
 ·rename_i args ts hop
  split at ho
  ·rename_i x t hx ht
   rw[Option.bind_eq_some_iff]at ho
   obtain⟨u,h1,h2⟩:=ho
   have e1:=qf h hA h1
   have:=zhP (N:=(· <S.next)) (ty:=o.type) h2 (ρ:=ρ) (b:=b) e1.2 w
   refine⟨?_,this.2⟩
   obtain rfl:args=#[x]:=by apply Array.ext';simpa using hx
   obtain rfl:ts=#[t]:=by apply Array.ext';simpa using ht
   simp[execOp,hop,resolve,invoke,builtin,e1.1,this.1]
  ·cases ho
 ·rename_i args ts hop
  split at ho
  ·rename_i x l hx
   have e1:=JS h hA hx
   have:=zhQ (P:=P) (b:=b) w l x v ho e1.2.1 e1.2.2
   refine⟨?_,this.2⟩
   have hm:(args.map a.eval).toList=x.den ρ b::SV.denL ρ b l:=by rw[Array.toList_map,e1.1];rfl
   simp only[execOp,hop,resolve,invoke,builtin,Sem.run_bind,Sem.run_pure,Result.andThen,Builtin.min_,hm,this.1]
  ·cases ho
 ·rename_i args ts hop
  split at ho
  ·rename_i x l hx
   have e1:=JS h hA hx
   have:=zhR (P:=P) (b:=b) w l x v ho e1.2.1 e1.2.2
   refine⟨?_,this.2⟩
   have hm:(args.map a.eval).toList=x.den ρ b::SV.denL ρ b l:=by rw[Array.toList_map,e1.1];rfl
   simp only[execOp,hop,resolve,invoke,builtin,Sem.run_bind,Sem.run_pure,Result.andThen,Builtin.max_,hm,this.1]
  ·cases ho
 ·cases ho
end Go.Proofs.YtoakpnoajmngmaaGreatDoor.Sx
namespace Go.Proofs.YtoakpnoajmngmaaGreatDoor.Sx
open Go.RowKit (Below)
def gb (P:Program) (eq:TypeId->SV->SV->Option E) (l m:List SV):List Field->Option E
 |[]=>some (.bc true)
 |f::fs=>
  if f.name≠ "_" then
   match g8 P f.type l f.offset,g8 P f.type m f.offset with
   |some a,some c=>match eq f.type a c,gb P eq l m fs with
    |some x,some y=>some (Vz x y)
    |_,_=>none
   |_,_=>none
  else gb P eq l m fs
def QH (P:Program) (eq:TypeId->SV->SV->Option E) (e:TypeId) (s:Nat) (l m:List SV):List Nat->Option E
 |[]=>some (.bc true)
 |i::is=>
  match g8 P e l (i*s),g8 P e m (i*s)with
  |some a,some c=>match eq e a c,QH P eq e s l m is with
   |some x,some y=>some (Vz x y)
   |_,_=>none
  |_,_=>none
def VF (P:Program):Nat->TypeId->SV->SV->Option E
 |0,_,_,_=>none
 |k+1,t,x,y=>
  match P.underlying t,x,y with
  |some .bool,.bool a,.bool c=>some (MU a c)
  |some (.int _),.int i a,.int j c=>if i=j then some (req a c)else none
  |some (.struct fs),.agg l,.agg m=>if P.stoodInHeld t then none else gb P (VF P k) l m fs.toList
  |some (.array n e),.agg l,.agg m=>match P.info? e with
   |some _=>QH P (VF P k) e (P.cellsOf e) l m (List.range n)
   |none=>none
  |_,_,_=>none
theorem zdt {P:Program} {ρ:Env} {b:Bd} {N:Nat->Prop} (w:World):∀(k:Nat) (t:TypeId) (x y:SV) (e:E),VF P k t x y=some e->x.ok ρ N->y.ok ρ N->∀d,k<=d->(Op.equalIn d t (x.den ρ b) (y.den ρ b)).run P w= .ok (e.b ρ) w:=by
 intro k
 induction k with
 |zero=>intro t x y e h;cases h
 |succ k ih=>
  intro t x y e h hx hy d hd
  obtain⟨d,rfl⟩:∃d',d=d'+1:=⟨d-1,by omega⟩
  simp only[VF]at h
  split at h
  ·rename_i a c hu
   cases h
   simp only[SV.den,Yp]
   exact wZ d hu _ _ w
  ·rename_i i' i a j c hu
   split at h
   ·rename_i hij
    subst hij
    cases h
    simp only[SV.den,zdr hx hy,<-Yq]
    simp[Op.equalIn,run_underlying hu]
   ·cases h
  ·rename_i fs l m hu
   split at h
   ·cases h
   ·rename_i hp
    have hf:P.fieldsOf t=fs:=by unfold Program.fieldsOf;rw[hu]
    simp only[SV.den]
    rw[run_equalIn_struct w d t _ _ (by rw[hf];exact hu) (by simpa using hp),hf]
    revert h
    generalize fs.toList=gs
    intro h
    induction gs generalizing e with
    |nil=>cases h;simp[Op.eqFields,E.b]
    |cons f gs ihg=>
     simp only[gb]at h
     simp only[Op.eqFields]
     split at h
     ·rename_i hn
      rw[if_pos hn]
      split at h
      ·rename_i a c h1 h2
       split at h
       ·rename_i u v h3 h4
        cases h
        have e1:=yP h1 (b:=b) hx w
        have e2:=yP h2 (b:=b) hy w
        have e3:=ih _ _ _ _ h3 e1.2 e2.2 d (by omega)
        simp only[Sem.run_bind,e1.1,e2.1,e3,Result.andThen_ok,Yl]
        cases hub:u.b ρ with
        |false=>simp
        |true=>simp[ihg v h4]
       ·cases h
      ·cases h
     ·rename_i hn
      rw[if_neg hn]
      exact ihg e h
  ·rename_i n el l m hu
   split at h
   ·rename_i i hi
    simp only[SV.den]
    rw[run_equalIn_array w d _ _ hu hi]
    revert h
    generalize List.range n=is
    intro h
    induction is generalizing e with
    |nil=>cases h;simp[Op.eqItems,E.b]
    |cons j is ihg=>
     simp only[QH]at h
     simp only[Op.eqItems]
     split at h
     ·rename_i a c h1 h2
      split at h
      ·rename_i u v h3 h4
       cases h
       have e1:=yP h1 (b:=b) hx w
       have e2:=yP h2 (b:=b) hy w
       have e3:=ih _ _ _ _ h3 e1.2 e2.2 d (by omega)
       simp only[Sem.run_bind,e1.1,e2.1,e3,Result.andThen_ok,Yl]
       cases hub:u.b ρ with
       |false=>simp
       |true=>simp[ihg v h4]
      ·cases h
     ·cases h
   ·cases h
  ·cases h
def opX (P:Program) (et:TypeId) (A:List E) (S:St) (o:Oper):Option SV:=
 match o.op with
 | .binOp op t x y _=>
   match ev A S x,ev A S y with
   |some (.agg l),some (.agg m)=>
    if P.eqGuardType P.depth t then none else
    match op,VF P 8 t (.agg l) (.agg m)with
    | .eql,some e=>some (.bool e)
    | .neq,some e=>some (.bool (jz e))
    |_,_=>none
   |_,_=>none
 | .typeAssert x _ t two=>
   match P.underlying t,ev A S x with
   |some (.interface _),_=>none
   |some _,some (.ifc u v)=>if u=t then some (if two then .tup [v,.bool (.bc true)]else v)else none
   |_,_=>none
 |_=>none
theorem zmn {P:Program} {et:TypeId} {ρ:Env} {b:Bd} {base:Nat->Prop} {w0 w:World} {S:St} {a:Act} {A:List E} (h:Rel ρ b base w0 w S a.tmps) (hA:qq ρ A) {o:Oper} {v:SV} (ho:opX P et A S o=some v):
  (execOp a.eval o).run P w= .ok (.value (v.den ρ b)) w/\v.ok ρ (· <S.next):=by
 unfold opX at ho
 split at ho
 ·rename_i op t x y yt hop
  split at ho
  ·rename_i l m hx hy
   split at ho
   ·cases ho
   ·rename_i hg
    have e1:=qf h hA hx
    have e2:=qf h hA hy
    have g:(eqGuard op t x y (.agg (SV.denL ρ b l).toArray) (.agg (SV.denL ρ b m).toArray)).run P w= .ok () w:=run_eqGuard_agg w op t x y _ _ (by simpa using hg)
    have key:∀e,VF P 8 t (.agg l) (.agg m)=some e->(Op.equalIn 10000 t (.agg (SV.denL ρ b l).toArray) (.agg (SV.denL ρ b m).toArray)).run P w= .ok (e.b ρ) w:=fun e he=>zdt w 8 t _ _ e he e1.2 e2.2 10000 (by omega)
    split at ho
    ·rename_i e he
     cases ho
     refine⟨?_,trivial⟩
     simp only[execOp,hop,e1.1,e2.1,SV.den,Sem.run_bind,g,Result.andThen_ok,run_eql_struct,key e he,Sem.run_pure]
    ·rename_i e he
     cases ho
     refine⟨?_,trivial⟩
     simp only[execOp,hop,e1.1,e2.1,SV.den,Sem.run_bind,g,Result.andThen_ok,run_neq_struct,key e he,Sem.run_pure,q7]
    ·cases ho
  ·cases ho
 ·rename_i x xt t two hop
  split at ho
  ·cases ho
  ·rename_i dd u v' hne hu hx
   split at ho
   ·rename_i hut
    subst hut
    cases ho
    have e1:=qf h hA hx
    have hrun:(Instr.typeAssert (.iface u (v'.den ρ b)) xt u two).run P w= .ok (if two then .tuple #[v'.den ρ b,.bool true]else v'.den ρ b) w:=by
     cases dd<;>first
      |exact(hne _ rfl).elim
      |(simp[Instr.typeAssert,run_underlying hu])
    refine⟨?_,?_⟩
    ·simp only[execOp,hop,e1.1,SV.den,Sem.run_bind,hrun,Result.andThen_ok,Sem.run_pure]
     cases two<;>rfl
    ·cases two
     ·exact e1.2
     ·exact⟨e1.2,trivial,trivial⟩
   ·cases ho
  ·cases ho
 ·cases ho
def opU (P:Program) (et:TypeId) (A:List E) (S:St) (o:Oper):Option SV:=match opV P et A S o with
 |some v=>some v
 |none=>opX P et A S o
theorem zmo {P:Program} {et:TypeId} {ρ:Env} (he:ρ.et=et) {b:Bd} {base:Nat->Prop} {w0 w:World} {S:St} {a:Act} {A:List E} (h:Rel ρ b base w0 w S a.tmps) (hA:qq ρ A) {o:Oper} {v:SV} (ho:opU P et A S o=some v):
  (execOp a.eval o).run P w= .ok (.value (v.den ρ b)) w/\v.ok ρ (· <S.next):=by
 unfold opU at ho
 split at ho
 ·rename_i u hu
  cases ho
  exact zmm he h hA hu
 ·exact zmn h hA ho
end Go.Proofs.YtoakpnoajmngmaaGreatDoor.Sx
namespace Go.Proofs.YtoakpnoajmngmaaGreatDoor.Sx
open Go.RowKit (Below)
def Bd.put (b:Bd) (n β o κ:Nat):Bd:=⟨fun m=>if m=n then β else b.β m,fun m=>if m=n then o else b.o m,fun m=>if m=n then κ else b.κ m⟩
theorem Bd.put_agree {N:Nat->Prop} (b:Bd) {n:Nat} (β o κ:Nat) (hn:¬N n):zM b (b.put n β o κ) N:=by
 intro m hm
 have:¬m=n:=fun e=>hn (e▸hm)
 simp[Bd.put,this]
theorem zM.refl (b:Bd) (N:Nat->Prop):zM b b N:=fun _ _=>⟨rfl,rfl,rfl⟩
theorem zM.trans {b c d:Bd} {N M:Nat->Prop} (h:zM b c N) (k:zM c d M) (hNM:∀n,N n->M n):zM b d N:=fun n hn=>by
 obtain⟨a1,a2,a3⟩:=h n hn
 obtain⟨b1,b2,b3⟩:=k n (hNM n hn)
 exact⟨b1.trans a1,b2.trans a2,b3.trans a3⟩
theorem Blk.ok.lt {ρ:Env} {b:Bd} {base:Nat->Prop} {w:World} {n:Nat} {B:Blk} (h:B.ok ρ b base w n) (hb:(∀k,base k->k<w.heap.size)):b.β n<w.heap.size:=by
 by_cases ho:B.own=true
 ·exact(h.base ho).2.1
 ·unfold Blk.ok at h
  unfold Blk.own at ho
  split at h
  ·simp_all
  ·simp_all
  ·exact hb _ h.1
  ·simp_all
theorem HRel.mono {ρ:Env} {b b':Bd} {base:Nat->Prop} {w w':World} {H:List (Nat × HEnt)} {N M:Nat->Prop} (h:HRel ρ b base w H N) (hb:zM b b' N) (hN:∀n,N n->M n) (hw:∀k,k<w.heap.size->w'.heap[k]? =w.heap[k]?) (hbase:(∀k,base k->k<w.heap.size)):HRel ρ b' base w' H M where
 mem:=fun n e hf hg=>by
  obtain⟨h1,h2,h3⟩:=h.mem n e hf hg
  exact⟨hN n h1,h2.keep h1 h3 hb (hw _ (h2.lt hbase)),SV.okL_mono hN _ h3⟩
 inj:=fun n m e k hf hk hg hgk ho hok heq=>by
  obtain⟨h1,_,_⟩:=h.mem n e hf hg
  obtain⟨h2,_,_⟩:=h.mem m k hk hgk
  exact h.inj n m e k hf hk hg hgk ho hok (by rw[<-(hb n h1).1,<-(hb m h2).1];exact heq)
theorem HRel.new {ρ:Env} {b:Bd} {base:Nat->Prop} {w:World} {H:List (Nat × HEnt)} {nx:Nat} (h:HRel ρ b base w H (· <nx)) (hbase:(∀k,base k->k<w.heap.size)) {cells:List SV} (hk:SV.okL ρ (· <nx) cells) (elem:TypeId):
  HRel ρ (b.put nx w.heap.size 0 0) base (w.alloc (.cells (SV.denL ρ b cells).toArray elem)) (push H nx ⟨[],⟨cells,elem,.full⟩⟩) (· <nx+1):=by
 have hn:¬(nx<nx):=Nat.lt_irrefl _
 have ha:zM b (b.put nx w.heap.size 0 0) (· <nx):=Bd.put_agree b _ _ _ hn
 have hm:=h.mono (w':=w.alloc (.cells (SV.denL ρ b cells).toArray elem)) (M:=(· <nx+1)) ha (fun n h=>Nat.lt_succ_of_lt h) (fun k hk=>heap_alloc_old w _ k hk) hbase
 have hput:(b.put nx w.heap.size 0 0).β nx=w.heap.size:=by simp[Bd.put]
 constructor
 ·intro n e hf hg
  rw[qF]at hf
  split at hf
  ·rename_i hnn
   subst hnn
   cases hf
   refine⟨Nat.lt_succ_self _,⟨by simp[Bd.put],by rw[hput];exact fun hc=>Nat.lt_irrefl _ (hbase _ hc),?_⟩,SV.okL_mono (fun n h=>Nat.lt_succ_of_lt h) _ hk⟩
   rw[hput,heap_alloc_new,SV.denL_agree ha _ hk]
  ·exact hm.mem n e hf hg
 ·intro n m e k hf hkf hg hgk ho hok heq
  rw[qF]at hf hkf
  split at hf
  ·rename_i hnn
   subst hnn
   split at hkf
   ·rename_i hmm;exact hmm
   ·exfalso
    obtain⟨h1,h2,_⟩:=h.mem m k hkf hgk
    have h3:=(ha m h1).1
    rw[hput]at heq
    rw[h3]at heq
    have:=(h2.base hok).2.1
    omega
  ·split at hkf
   ·rename_i hmm
    subst hmm
    exfalso
    obtain⟨h1,h2,_⟩:=h.mem n e hf hg
    have h3:=(ha n h1).1
    rw[hput,h3]at heq
    have:=(h2.base ho).2.1
    omega
   ·exact hm.inj n m e k hf hkf hg hgk ho hok heq
theorem HRel.write {ρ:Env} {b:Bd} {base:Nat->Prop} {w w':World} {H:List (Nat × HEnt)} {N:Nat->Prop} (h:HRel ρ b base w H N) {n:Nat} {e:HEnt} (hf:zB H n=some e) (hg:qq ρ e.g) (ho:e.blk.own=true)
  {B:Blk} (hB:B.own=true) (hok:B.ok ρ b base w' n) (hk:SV.okL ρ N B.cells) (hw:∀k,k≠b.β n->w'.heap[k]? =w.heap[k]?):HRel ρ b base w' (upd H n ⟨e.g,B⟩) N where
 mem:=fun m x hm hgm=>by
  rw[Gn]at hm
  split at hm
  ·rename_i hnm
   subst hnm
   cases hm
   exact⟨(h.mem n e hf hg).1,hok,hk⟩
  ·rename_i hnm
   obtain⟨h1,h2,h3⟩:=h.mem m x hm hgm
   refine⟨h1,h2.keep h1 h3 (zM.refl b N) (hw _ ?_),h3⟩
   intro heq
   by_cases hox:x.blk.own=true
   ·exact hnm (h.inj n m e x hf hm hg hgm ho hox heq.symm)
   ·have e1:=((h.mem n e hf hg).2.1.base ho).1
    have:base (b.β m):=by
     unfold Blk.ok at h2
     unfold Blk.own at hox
     split at h2
     ·simp_all
     ·simp_all
     ·exact h2.1
     ·simp_all
    rw[heq]at this
    exact e1 this
 inj:=fun m p x y hm hp hgm hgp hox hoy heq=>by
  rw[Gn]at hm hp
  split at hm
  ·rename_i hnm
   subst hnm
   cases hm
   split at hp
   ·assumption
   ·exact h.inj n p e y hf hp hg hgp ho hoy heq
  ·split at hp
   ·rename_i hnp
    subst hnp
    cases hp
    exact h.inj m n x e hm hf hgm hg hox ho heq
   ·exact h.inj m p x y hm hp hgm hgp hox hoy heq
def St.new (S:St) (cells:List SV) (elem:TypeId):St:= {S with heap:=push S.heap S.next ⟨[],⟨cells,elem,.full⟩⟩,next:=S.next+1}
theorem Rel.new {ρ:Env} {b:Bd} {base:Nat->Prop} {w0 w:World} {S:St} {tm:Array Value} (h:Rel ρ b base w0 w S tm) {cells:List SV} (hk:SV.okL ρ (· <S.next) cells) (elem:TypeId):
  zM b (b.put S.next w.heap.size 0 0) (· <S.next)/\Rel ρ (b.put S.next w.heap.size 0 0) base w0 (w.alloc (.cells (SV.denL ρ b cells).toArray elem)) (S.new cells elem) tm:=by
 have ha:zM b (b.put S.next w.heap.size 0 0) (· <S.next):=Bd.put_agree b _ _ _ (Nat.lt_irrefl _)
 refine⟨ha,h.heap.new h.base hk elem,fun i e hf=>?_,h.below.alloc h.base _,fun k hk=>by rw[World.size_alloc];exact Nat.lt_succ_of_lt (h.base k hk),h.nt,h.kept⟩
 obtain⟨h1,h2⟩:=h.tmps i e hf
 refine⟨fun hg=>?_,h2⟩
 obtain⟨h3,h4⟩:=h1 hg
 exact⟨by rw[SV.den_agree ha _ h4];exact h3,SV.ok_mono (fun n h=>Nat.lt_succ_of_lt h) _ h4⟩
def JV (cs:List SV) (off:Nat) (vs:List SV):List SV:=cs.take off++vs++cs.drop (off+vs.length)
theorem zaa {ρ:Env} {N:Nat->Prop} {cs vs:List SV} (off:Nat) (h:SV.okL ρ N cs) (hv:SV.okL ρ N vs):SV.okL ρ N (JV cs off vs):=
 (qo _ _ _).2 fun x hx=>by
  unfold JV at hx
  rw[List.mem_append,List.mem_append]at hx
  rcases hx with(hx|hx)|hx
  ·exact(qo _ _ _).1 h x (List.mem_of_mem_take hx)
  ·exact(qo _ _ _).1 hv x hx
  ·exact(qo _ _ _).1 h x (List.mem_of_mem_drop hx)
theorem zab {cs vs:List SV} {off i:Nat} {v:SV} {arr:List Value} (f:SV->Value) (hl:off+vs.length<=cs.length) (ha:cs.length<=arr.length) (h:∀(i:Nat) (v:SV),cs[i]? =some v->arr[i]? =some (f v)) (hi:(JV cs off vs)[i]? =some v):
  (arr.take off++vs.map f++arr.drop (off+vs.length))[i]? =some (f v):=by
 unfold JV at hi
 rw[List.append_assoc]at hi ⊢
 rw[List.getElem?_append]at hi ⊢
 have e1:(cs.take off).length=off:=by simp;omega
 have e2:(arr.take off).length=off:=by simp;omega
 rw[e1]at hi
 rw[e2]
 split at hi
 ·rename_i hlt
  rw[if_pos hlt]
  rw[List.getElem?_take]at hi ⊢
  rw[if_pos hlt]at hi ⊢
  exact h i v hi
 ·rename_i hlt
  rw[if_neg hlt]
  rw[List.getElem?_append]at hi ⊢
  rw[List.length_map]
  split at hi
  ·rename_i h2
   rw[if_pos h2,List.getElem?_map,hi];rfl
  ·rename_i h2
   rw[if_neg h2]
   rw[List.getElem?_drop]at hi ⊢
   exact h _ v hi
def zac (P:Program) (A:List E) (S:St) (t:TypeId) (x v:SV):Option St:=
 match x with
 | .ptr n off=>
   match zB S.heap n with
   |some h=>
    if h.g.isEmpty=true/\h.blk.own=true/\A.isEmpty=true/\x7 v=true/\v.cells.all SV.isOne=true/\yu P t=some v.cells.length/\off+v.cells.length<=h.blk.cells.length
    then some {S with heap:=upd S.heap n ⟨h.g,{h.blk with cells:=JV h.blk.cells off v.cells}⟩} else none
   |none=>none
 |_=>none
theorem zad {P:Program} {A:List E} {S S':St} {t:TypeId} {x v:SV} (hs:zac P A S t x v=some S') {ρ:Env} {b:Bd} {base:Nat->Prop} {w0 w:World} {tm:Array Value} (h:Rel ρ b base w0 w S tm) (hv:v.ok ρ (· <S.next)):
  ∃w',(Instr.storeAt t (x.den ρ b) (v.den ρ b)).run P w= .ok () w'/\Rel ρ b base w0 w' S' tm/\S'.next=S.next:=by
 unfold zac at hs
 split at hs
 ·rename_i n off
  split at hs
  ·rename_i e hf
   split at hs
   ·rename_i hc
    cases hs
    obtain⟨h1,h2,_,h3,h4,h5,h6⟩:=hc
    have hg:qq ρ e.g:=by have:e.g=[]:=by simpa using h1
                         rw[this];intro _ h;cases h
    obtain⟨m1,m2,m3⟩:=h.heap.mem n e hf hg
    have hcell:=SV.cells_den ρ b (xF h3)
    have hlen:(v.den ρ b).cells.size=v.cells.length:=by rw[hcell];simp[zk]
    have hone:∀u∈SV.denL ρ b v.cells,u.oneCell'=true:=by
     intro u hu
     rw[zW,List.mem_map]at hu
     obtain⟨y,hy,rfl⟩:=hu
     exact(SV.isOne_den (List.all_eq_true.1 h4 y hy) ρ b).1
    have hvk:SV.okL ρ (· <S.next) v.cells:=SV.cells_ok hv
    have hb:=m2.base h2
    have key:∃arr:Array Value,w.heap[b.β n]? =some (.cells arr e.blk.elem (0,0))/\e.blk.cells.length<=arr.size/\(∀w',w'.heap[b.β n]? =some (.cells (arr.toList.take off++SV.denL ρ b v.cells++arr.toList.drop (off+v.cells.length)).toArray e.blk.elem (0,0))->Blk.ok ρ b base w' n {e.blk with cells:=JV e.blk.cells off v.cells}):=by
     have hm2:=m2
     unfold Blk.ok at m2
     split at m2
     ·rename_i hkd
      obtain⟨a1,a2,a3⟩:=m2
      refine⟨_,a3,by simp[zk],fun w' hw'=>?_⟩
      unfold Blk.ok
      simp only[hkd]
      refine⟨a1,a2,?_⟩
      rw[hw',zW,zW]
      simp[JV,zW,List.map_take,List.map_drop]
     ·rename_i sz hkd
      obtain⟨a1,a2,arr,a3,a4,a5,a6⟩:=m2
      refine⟨arr,a3,a5,fun w' hw'=>?_⟩
      unfold Blk.ok
      simp only[hkd]
      refine⟨a1,a2,_,hw',?_,?_,?_⟩
      ·rw[<-a4];simp[zk];omega
      ·simp[JV,zk];omega
      ·intro i u hi
       have:=zab (SV.den ρ b) (arr:=arr.toList) h6 (by simpa using a5) (fun i v hi=>by simpa using a6 i v hi) hi
       rw[zW]
       simpa using this
     ·rename_i hkd
      unfold Blk.own at h2
      rw[hkd]at h2
      cases h2
     ·rename_i id hkd
      obtain⟨a1,a2,a3,arr,a4,a5⟩:=m2
      rw[a3]at h6
      simp only[List.length_nil,Nat.le_zero,Nat.add_eq_zero_iff,List.length_eq_zero_iff]at h6
      obtain⟨rfl,hv0⟩:=h6
      refine⟨arr,a4,by rw[a3];exact Nat.zero_le _,fun w' hw'=>?_⟩
      unfold Blk.ok
      simp only[hkd]
      refine⟨a1,a2,by simp[JV,hv0,a3],arr,?_,a5⟩
      rw[hw',hv0]
      simp[SV.denL]
    obtain⟨arr,k1,k2,k3⟩:=key
    have hrun:=run_storeCells_at P (b.β n) off e.blk.elem (SV.denL ρ b v.cells) 0 arr w k1 (by rw[zk];omega) hone
    refine⟨_,?_,⟨h.heap.write hf hg h2 (B:= {e.blk with cells:=JV e.blk.cells off v.cells}) h2 (k3 _ (by
     have:=setRow_heap w (b.β n) arr (arr.toList.take (off+0)++SV.denL ρ b v.cells++arr.toList.drop (off+0+(SV.denL ρ b v.cells).length)).toArray e.blk.elem _ k1
     rw[this,zk]
     simp)) (zaa off m3 hvk) (fun k hk=>setRow_other w (b.β n) k _ hk),h.tmps,?_,?_,h.nt,h.kept⟩,rfl⟩
    ·simp only[Instr.storeAt,SV.den,Instr.sureAddr,storeVar,Sem.run_bind,Sem.run_pure,Result.andThen,qi h5,hlen]
     rw[if_neg (by simp)]
     rw[hcell]
     have e0:b.o n+off=off:=by rw[hb.2.2];omega
     rw[e0]
     exact hrun
    ·have hbel:=h.below
     exact⟨hbel.os,hbel.tape,hbel.output,by simpa using hbel.size,fun k hk=>by
      rw[setRow_other w (b.β n) k _ (fun e=>hb.1 (e▸hk))];exact hbel.block k hk⟩
    ·have:=h.base;simpa using this
   ·cases hs
  ·cases hs
 ·cases hs
end Go.Proofs.YtoakpnoajmngmaaGreatDoor.Sx
