import Derived.Test.YtoakpnoajmngmaaGreatDoorLineA
import Derived.Test.YtoakpnoajmngmaaGreatDoorWgPl
import Derived.Deep.Cut
import Derived.Deep.CutRange
import Derived.Outline
import Derived.Deep.RegionHeld3
import Derived.BigQuiet
import Derived.Deep.QuietTactic
import Derived.Maps.AppendAt
import Derived.Deep.AppendLies
import Derived.Deep.OwnRows
import Derived.Test.YtoakpnoajmngmaaGreatDoorGuard
import Derived.Deep.DeepCutAuto
import Derived.Deep.MidRow
import Derived.LoopN
set_option linter.unusedVariables false
set_option linter.unusedSimpArgs false
namespace Go.Proofs.YtoakpnoajmngmaaGreatDoor.Sx
open Go.RowKit
structure DiceOk (w:World) (d:Nat) (g:GD) (at':Int):Prop where
 c0:w.cell? ⟨d,0,none⟩=some (.slice g.A g.n g.c)
 c1:w.cell? ⟨d,1,none⟩=some (.int .i64 at')
 f:∀o,w.frozen? ⟨d,o,none⟩=false
 lt:d<w.heap.size
 ok:g.ok w
 ne:∀bl off s,g.A=some ⟨bl,off,s⟩->0<g.n->bl≠d
 ks:g.ks=[true]
 n:g.n<=1000
theorem wj {g:GD} {w w':World} {d:Nat} (h:g.ok w) (hg:w.grownBy w' (some d)) (hne:∀bl off s,g.A=some ⟨bl,off,s⟩->0<g.n->bl≠d):g.ok w':=
 ⟨h.n,fun i j hi hj=>by
  obtain⟨bl,off,e1,e2,e3⟩:=h.cell i j hi hj
  refine⟨bl,off,e1,Nat.lt_of_lt_of_le e2 hg.size,hg.cell e3 ?_⟩
  intro hc
  exact hne bl off none e1 (by omega) (by simpa using hc),h.b64⟩
theorem DiceOk.grown {w w':World} {d:Nat} {g:GD} {a a':Int} (h:DiceOk w d g a) (hg:w.grownBy w' (some d)) (c0:w'.cell? ⟨d,0,none⟩=some (.slice g.A g.n g.c)) (c1:w'.cell? ⟨d,1,none⟩=some (.int .i64 a')) (f:∀o,w'.frozen? ⟨d,o,none⟩=false):DiceOk w' d g a':=
 ⟨c0,c1,f,Nat.lt_of_lt_of_le h.lt hg.size,wj h.ok hg h.ne,h.ne,h.ks,h.n⟩
theorem qE {g:GD} {w w':World} (h:g.ok w) (hb:Below w.heap.size w w'):g.ok w':=
 ⟨h.n,fun i j hi hj=>by
  obtain⟨bl,off,e1,e2,e3⟩:=h.cell i j hi hj
  exact⟨bl,off,e1,Nat.lt_of_lt_of_le e2 hb.size,(hb.cell (p:=⟨bl,_,none⟩) e2).trans e3⟩,h.b64⟩
theorem DiceOk.below {w w':World} {d:Nat} {g:GD} {a:Int} (h:DiceOk w d g a) (hb:Below w.heap.size w w'):DiceOk w' d g a:=
 ⟨(hb.cell (p:=⟨d,0,none⟩) h.lt).trans h.c0,(hb.cell (p:=⟨d,1,none⟩) h.lt).trans h.c1,fun o=>(hb.frozen (p:=⟨d,o,none⟩) h.lt).trans (h.f o),Nat.lt_of_lt_of_le h.lt hb.size,qE h.ok hb,h.ne,h.ks,h.n⟩
theorem DiceOk.alloc {w:World} {d:Nat} {g:GD} {a:Int} (h:DiceOk w d g a) (o:Obj):DiceOk (w.alloc o) d g a:=h.below (Below.alloc (Below.refl _ _) (Nat.le_refl _) _)
theorem DiceOk.drew {w:World} {d:Nat} {g:GD} {a:Int} (h:DiceOk w d g a):DiceOk w.drew d g a:=h.below (Below.drew (Below.refl _ _))
theorem yr (w:World) (b i:Nat) (v:Value):w.grownBy (w.setCell ⟨b,i,none⟩ v) (some b):=
 ⟨rfl,rfl,rfl,by simp[World.setCell],fun k hk hne=>Below.heap_setCell _ _ _ _ (fun h=>hne (by simp[h]))⟩
theorem DiceOk.set {w:World} {d:Nat} {g:GD} {a:Int} (h:DiceOk w d g a) {b i:Nat} {v:Value} (hb:b≠d) (hr:∀bl off s,g.A=some ⟨bl,off,s⟩->0<g.n->bl≠b):DiceOk (w.setCell ⟨b,i,none⟩ v) d g a:=by
 have hg:=yr w b i v
 have hne:(some d:Option Nat)≠some b:=fun h=>hb (by simpa using h.symm)
 refine⟨hg.cell h.c0 hne,hg.cell h.c1 hne,fun o=>(World.frozen?_setCell _ _ _ _).trans (h.f o),Nat.lt_of_lt_of_le h.lt hg.size,wj h.ok hg hr,h.ne,h.ks,h.n⟩
theorem DiceOk.step {w w':World} {d:Nat} {g:GD} {a:Int} (h:DiceOk w d g a) (hw:Below w.heap.size w w'):DiceOk (w'.setCell ⟨d,1,none⟩ (.int .i64 (a+1))) d g (a+1)/\w.grownBy (w'.setCell ⟨d,1,none⟩ (.int .i64 (a+1))) (some d):=by
 have h':=h.below hw
 have hg:=yr w' d 1 (.int .i64 (a+1))
 refine⟨h'.grown hg ((World.cell?_setCell_other _ _ _ _ (by simp)).trans h'.c0) (World.cell?_setCell_same _ _ _ h'.c1) (fun o=>(World.frozen?_setCell _ _ _ _).trans (h'.f o)),?_⟩
 exact World.grownBy.trans ⟨hw.os,hw.tape,hw.output,hw.size,fun k hk _=>hw.block k hk⟩ hg
end Go.Proofs.YtoakpnoajmngmaaGreatDoor.Sx
namespace Go.Proofs.YtoakpnoajmngmaaGreatDoor.Sx
open Go.RowKit
theorem wU {w x:World} {r:Option Nat} (h:w.grownBy x r) (o:Obj):w.grownBy (x.alloc o) r:=h.trans (World.grownBy_alloc x o r)
theorem Zq {w x:World} {r:Option Nat} (h:w.grownBy x r):w.grownBy x.drew r:=⟨h.os,h.tape,h.output,h.size,h.block⟩
theorem wV {w x y:World} {r:Option Nat} (h:w.grownBy x r) (hb:Below x.heap.size x y):w.grownBy y r:=
 ⟨hb.os.trans h.os,hb.tape.trans h.tape,hb.output.trans h.output,Nat.le_trans h.size hb.size,fun k hk hne=>(hb.block k (Nat.lt_of_lt_of_le hk h.size)).trans (h.block k hk hne)⟩
theorem DiceOk.raw {w:World} {d:Nat} {g:GD} {a:Int} (h:DiceOk w d g a):∀bl off s,g.A=some ⟨bl,off,s⟩->0<g.n->bl<w.heap.size:=fun bl off s e hn=>by
 obtain⟨bl',off',e1,e2,_⟩:=h.ok.cell 0 0 hn (by rw[h.ks];decide)
 rw[e]at e1
 cases e1
 exact e2
end Go.Proofs.YtoakpnoajmngmaaGreatDoor.Sx
namespace Go.Proofs.YtoakpnoajmngmaaGreatDoor.Sx
open Go.RowKit
structure Ax where
 lo:Int
 hi:Int
 no:Int
 pu:Int
 su:Int
 tr:Int
 ra:Int
 sl:Int
 li:Int
 co:Int
 wa:Int
 tu:Int
 bu:Int
 pA:Nat
 pI:Nat
def Ax.cells (x:Ax):List Value:=[.int .i64 x.lo,.int .i64 x.hi,.int .i64 x.no,.int .i64 x.pu,.int .i64 x.su,.int .i64 x.tr,.int .i64 x.ra,.int .i64 x.sl,.int .i64 x.li,.int .i64 x.co,.int .i64 x.wa,.int .i64 x.tu,.slice (some ⟨x.pA,0,none⟩) 2 2,.slice (some ⟨x.pI,0,none⟩) 2 2,.int .i64 x.bu]
structure Ax.Fine (x:Ax):Prop where
 su:2<=x.su/\x.su<=4
 tr:1<=x.tr/\x.tr<=1000
 ra:1<=x.ra/\x.ra<=x.tr
 sl:0<=x.sl/\x.sl<=x.tr
 pu:0<=x.pu/\x.pu<=1000
 no:0<=x.no/\x.no<=1000
 lo: -100000000<=x.lo/\x.lo<=x.hi/\x.hi<=200000000
 wa:1<=x.wa/\x.wa<=10
 co:1<=x.co/\x.co<=10/\0<=x.li/\x.li<=2040/\0<=x.tu/\x.tu<=1000/\0<=x.bu/\x.bu<=65536
theorem Ax.len (x:Ax):x.cells.length=15:=rfl
theorem Ax.one (x:Ax):x.cells.toArray.all (·.oneCell')=true:=by simp[Ax.cells,Value.oneCell']
theorem GD.ok.new {g:GD} {w:World} (h:g.ok w) (o:Obj):g.ok (w.alloc o):=qE h (Below.alloc (Below.refl _ _) (Nat.le_refl _) _)
end Go.Proofs.YtoakpnoajmngmaaGreatDoor.Sx
namespace Go.Proofs.YtoakpnoajmngmaaGreatDoor.Sx
open Go.RowKit
theorem DiceOk.far {w w':World} {d:Nat} {g:GD} {a:Int} (h:DiceOk w d g a) {r:Option Nat} (hg:w.grownBy w' r) (hd:∀q,r=some q->d<q) (hr:∀bl off s,g.A=some ⟨bl,off,s⟩->0<g.n->∀q,r=some q->bl<q):DiceOk w' d g a:=by
 have hne:some d≠r:=fun e=>absurd (hd d e.symm) (by omega)
 have hok:g.ok w':=by
  cases r with
  |none=>exact wj (d:=w.heap.size) h.ok ⟨hg.os,hg.tape,hg.output,hg.size,fun k hk _=>hg.block k hk (by simp)⟩ (fun bl off s e hn=>by have:=h.raw bl off s e hn;omega)
  |some q=>exact wj h.ok hg (fun bl off s e hn=>by have:=hr bl off s e hn q rfl;omega)
 exact⟨hg.cell h.c0 hne,hg.cell h.c1 hne,fun o=>(hg.frozen_far ⟨d,o,none⟩ h.lt hne).trans (h.f o),Nat.lt_of_lt_of_le h.lt hg.size,hok,h.ne,h.ks,h.n⟩
end Go.Proofs.YtoakpnoajmngmaaGreatDoor.Sx
