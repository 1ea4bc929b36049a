import Derived.Test.YtoakpnoajmngmaaGreatDoorHead
import Derived.WalkKit
import Derived.ProofKit
import Derived.OpenShut
set_option linter.unusedVariables false
set_option linter.unusedSimpArgs false
namespace Go.Proofs.YtoakpnoajmngmaaGreatDoor
open Go.ChangeShapes Go.WideShapes Go.ChangeAt Go.RowKit
theorem ziV:ownKnob Tryz.prog.godebug=none:=by kernel_rfl
theorem zfW:laidOutB Tryz.prog=true:=by kernel_rfl
theorem znr:mapsRowed Tryz.prog=true:=by kernel_rfl
theorem zm6:(Tryz.prog.stops== [])=true:=by kernel_rfl
theorem zm7:(Tryz.prog.stopKnobs== [])=true:=by kernel_rfl
theorem zm8:Tryz.prog.stopsHeard=true:=by kernel_rfl
theorem zq3 {a b:Bool} (ha:a=true) (hb:b=true):(a&&b)=true:=by rw[ha,hb];rfl
section
variable {H:Type} {enc:TypeId × Value->H} {P:Program}
theorem zbA {f:Func} {s:ChangeSpec} {apart fresh handsOn:Bool} {W W':World} {args:Array Value} {v:Value} {ds gs:List (DataW H)} {before pa pv:List MemPlace}
  (hW:DataW.Whole enc P f.params.toList s.vars apart W args.toList ds gs before)
  (hres:∀(b:Nat) (sp:Nat->Bool) (hd:Bool),DataW.TrodAll enc P W' b sp hd f.resultTypes.toList (v.resultList f.resultTypes.size) (s.fn H (ds++gs)).results [])
  (hargs:DataW.TrodAll enc P W' 0 (fun b=>decide (b<W.heap.size)) true f.params.toList args.toList (s.fn H (ds++gs)).args pa)
  (hvars:∀sp:Nat->Bool,(∀p∈before,sp p.block=true)->DataW.TrodVars enc P W' sp s.vars (s.fn H (ds++gs)).vars pv)
  (hps:before=pa++pv) (hb:Below W.heap.size W W'):
  s.post enc P f apart fresh handsOn false W args v W':=by
 have hlt:∀p∈before,p.block<W.heap.size:=fun p hp=>hW.lt p hp
 have hold:∀p∈before,(fun b=>decide (b<W.heap.size)) p.block=true:=fun p hp=>by simpa using hlt p hp
 refine⟨ds,gs,before,[],pa,pv,hW,hres _ _ _,hargs,hvars _ hold,World.keptBut_mono (fun p hp=>⟨hp,?_⟩) (hb.frame (· ∈before)),fun h=>by cases h⟩
 rw[hps,List.mem_append]at hp
 exact Or.inr hp
theorem xR (hl:laidOutB P=true) {W W':World} (hb:Below W.heap.size W W'):
  ∀(ts:List TypeId) (vs:List Value) (ds:List (DataW H)) (ps:List MemPlace),ts.all (fun t=>P.readableRec t&&decide (t<P.types.size))=true->(∀x∈ps,x.block<W.heap.size)->
   DataW.TrodAll enc P W 0 (fun _=>true) true ts vs ds ps->DataW.TrodAll enc P W' 0 (fun b=>decide (b<W.heap.size)) true ts vs ds ps
 |[],[],[],_,_,_,h=>h
 |t::ts,v::vs,d::ds,ps,hr,hlt,h=>by
  obtain⟨p,q,h1,h2,rfl⟩:=h
  simp only[List.all_cons,Bool.and_eq_true,decide_eq_true_eq]at hr
  exact⟨p,q,Below.trod hl hr.1.1 hr.1.2 h1 hb (fun x hx=>hlt x (by simp[hx])),xR hl hb ts vs ds q hr.2 (fun x hx=>hlt x (by simp[hx])) h2,rfl⟩
 |[],_::_,_,_,_,_,h=>h.elim
 |[],[],_::_,_,_,_,h=>h.elim
 |_::_,[],_,_,_,_,h=>h.elim
 |_::_,_::_,[],_,_,_,h=>h.elim
end
def B64 (x:Int):Prop:= -9223372036854775808<=x/\x<=9223372036854775807
def gJ (P:Program) (w:World) (r:Reach) (base:Nat):List TypeId->List Value->Prop
 |[],[]=>True
 |t::ts,c::cs=>Cell.okWide P w r base t c/\gJ P w r base ts cs
 |_,_=>False
section
variable {P:Program} {w:World} {r:Reach} {base:Nat}
theorem zeO {t:TypeId} {ts:List TypeId} {cs:List Value} (h:gJ P w r base (t::ts) cs):∃c cs',cs=c::cs'/\Cell.okWide P w r base t c/\gJ P w r base ts cs':=by
 cases cs with
 |nil=>exact h.elim
 |cons c cs=>exact⟨c,cs,rfl,h.1,h.2⟩
theorem zfX {cs:List Value} (h:gJ P w r base [] cs):cs=[]:=by
 cases cs with
 |nil=>rfl
 |cons c cs=>exact h.elim
theorem Zf:∀(ts:List TypeId) (cs:List Value),cs.length=ts.length->(∀(i:Nat) (v:Value),cs[i]? =some v->∃u,ts[i]? =some u/\Cell.okWide P w r base u v)->gJ P w r base ts cs
 |[],[],_,_=>trivial
 |t::ts,c::cs,hl,h=>by
  refine⟨?_,Zf ts cs (by simpa using hl) fun i v hv=>by simpa using h (i+1) v (by simpa using hv)⟩
  obtain⟨u,hu,hc⟩:=h 0 c rfl
  simp at hu
  subst hu
  exact hc
 |[],_::_,hl,_=>by simp at hl
 |_::_,[],hl,_=>by simp at hl
theorem ziW {t:TypeId} {v:Value} {fs:Array Field} (ts:List TypeId) (hT:P.underlying t=some (.struct fs)) (hts:P.cellTypes P.depth t=some ts) (hsz:P.cellsOf t=ts.length) (hv:Value.okWide P w r base t v):
  ∃cs:List Value,v= .agg ⟨cs⟩/\gJ P w r base ts cs:=by
 have hv':∃cs,v= .agg cs/\cs.size=P.cellsOf t/\Row.okWide P w r base t cs:=by
  unfold Value.okWide at hv
  rwa[hT]at hv
 obtain⟨⟨cs⟩,rfl,hs,ts',hts',_,hc⟩:=hv'
 rw[hts]at hts'
 injection hts' with hts'
 subst hts'
 refine⟨cs,rfl,Zf ts cs (by simpa [hsz]using hs) fun i v hv=>?_⟩
 obtain⟨u,hu,hcc⟩:=hc i v (by simpa using hv)
 have hi:i<ts.length:=by
  have h1:i<cs.length:=(List.getElem?_eq_some_iff.1 hv).1
  have h2:cs.length=ts.length:=by simpa [hsz]using hs
  omega
 rw[Nat.mod_eq_of_lt hi]at hu
 exact⟨u,hu,hcc⟩
theorem zbB {t:TypeId} {v:Value} (ht:P.underlying t=some (.int .i64)) (h:Cell.okWide P w r base t v):∃x,v= .int .i64 x/\B64 x:=by
 unfold Cell.okWide at h
 rw[ht]at h
 unfold Cell.ok at h
 rw[ht]at h
 cases v<;>simp at h
 obtain⟨rfl,h⟩:=h
 refine⟨_,rfl,?_⟩
 simpa [IntKind.has,IntKind.min,IntKind.max,IntKind.signed,IntKind.bits,B64]using h
theorem WJ {t:TypeId} {v:Value} (ht:P.underlying t=some .bool) (h:Cell.okWide P w r base t v):∃x,v= .bool x:=by
 unfold Cell.okWide at h
 rw[ht]at h
 unfold Cell.ok at h
 rw[ht]at h
 cases v<;>simp at h
 exact⟨_,rfl⟩
theorem zbC {t:TypeId} {v:Value} (ht:P.underlying t=some (.int .u32)) (h:Cell.okWide P w r base t v):∃x:Int,v= .int .u32 x/\0<=x/\x<=4294967295:=by
 unfold Cell.okWide at h
 rw[ht]at h
 unfold Cell.ok at h
 rw[ht]at h
 cases v<;>simp at h
 obtain⟨rfl,h⟩:=h
 refine⟨_,rfl,?_⟩
 simpa [IntKind.has,IntKind.min,IntKind.max,IntKind.signed,IntKind.bits]using h
theorem ziA {t:TypeId} {v:Value} (ht:P.underlying t=some (.int .i64)) (hv:Value.okWide P w r base t v):∃x,v= .int .i64 x/\B64 x:=by
 unfold Value.okWide at hv
 rw[ht]at hv
 exact zbB ht hv
theorem zfY {t:TypeId} {v:Value} (ht:P.underlying t=some .bool) (hv:Value.okWide P w r base t v):∃x,v= .bool x:=by
 unfold Value.okWide at hv
 rw[ht]at hv
 exact WJ ht hv
theorem ziB {t:TypeId} {v:Value} (ht:P.underlying t=some (.int .u32)) (hv:Value.okWide P w r base t v):∃x:Int,v= .int .u32 x/\0<=x/\x<=4294967295:=by
 unfold Value.okWide at hv
 rw[ht]at hv
 exact zbC ht hv
end
end Go.Proofs.YtoakpnoajmngmaaGreatDoor
