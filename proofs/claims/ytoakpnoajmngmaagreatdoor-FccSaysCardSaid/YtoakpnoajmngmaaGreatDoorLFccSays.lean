/-
  The statement 'FccSaysCardSaid': the row over the walk of FccSays, and the tied card (one laid variable: the handle of errors.errorType).
-/
import Derived.Test.YtoakpnoajmngmaaGreatDoorWFccSays
import Derived.Test.YtoakpnoajmngmaaGreatDoorCards
import Derived.Test.YtoakpnoajmngmaaGreatDoorTie
import Derived.WalkKit
import Derived.ProofKit
import Derived.OpenShut
import Derived.Deep.DeepHandedRow
import Derived.LaidHandle
import Derived.LaidLaws
import Derived.Test.YtoakpnoajmngmaaGreatDoorFrame
set_option linter.unusedVariables false
set_option linter.unusedSimpArgs false
namespace Go.Proofs.YtoakpnoajmngmaaGreatDoor.lFccSays
open Go.ChangeShapes Go.WideShapes Go.ChangeAt Go.RowKit
set_option maxRecDepth 100000
theorem et:Tryz.prog.globalNamed "errors.errorType" =some 0:=by kernel_rfl
theorem rt:(Tryz.prog.cutTypes.find? (·.1== "internal/reflectlite.rtype")).map (·.2)=some 252:=by kernel_rfl
theorem oneRow:((List.range 303).filter fun t=>Tryz.prog.rowNamed t [101,114,114,111,114])=[51]:=by kernel_rfl
theorem size:Tryz.prog.types.size=303:=by kernel_rfl
theorem handle_of_laid {W:World} (h:laidMetH Tryz.prog Rows.fccSaysRow.laid W):Sx.ErrLaid W:=by
 have h':laidMet Tryz.prog [] W/\handlesMet Tryz.prog Rows.fccSaysRow.laid W:=h
 obtain⟨name,u,ty,e1,e2,e3,e4,e5⟩:=h'.2 _ (List.mem_singleton.2 rfl)
 have en:name=[101,114,114,111,114]:=(Option.some.inj e1).symm
 subst en
 obtain rfl:=Option.some.inj (rt.symm.trans e2)
 have hm:ty∈(List.range 303).filter fun t=>Tryz.prog.rowNamed t [101,114,114,111,114]:=List.mem_filter.2 ⟨List.mem_range.2 (by rw[<-size];exact e3),e4⟩
 rw[oneRow]at hm
 obtain rfl:=List.mem_singleton.1 hm
 have hh:typeHandle Tryz.prog 51= .pointer (some ⟨1,51,none⟩):=by kernel_rfl
 rw[hh]at e5
 simpa [Sx.ErrLaid]using World.var?_cell et e5 0
theorem contract (H:Type) (enc:TypeId × Value->H) (W:World) (base:Nat) (args:Array Value) (ds gs:List (DataW H)) (zJ:List MemPlace)
  (hval0:∀(j:Nat) t v,Tryz.f3.params[j]? =some t->args[j]? =some v->Value.okWide Tryz.prog W .any base t v)
  (hW:DataW.Whole enc Tryz.prog Tryz.f3.params.toList Rows.fccSaysSpec.vars false W args.toList ds gs zJ) (hL:laidMetH Tryz.prog Rows.fccSaysRow.laid W):
  Calls Tryz.prog 3 args W fun e W'=>∃v,e= .returned v/\Rows.fccSaysSpec.post enc Tryz.prog Tryz.f3 false true false false W args v W':=by
 have hg:=handle_of_laid hL
 have hval:=hval0
 have hW':=hW
 obtain⟨p,q,hA0,hV,rfl,_,_⟩:=hW
 have hA:DataW.TrodAll enc Tryz.prog W 0 (fun _=>true) true Tryz.f3.params.toList args.toList ds p:=hA0
 rw[Tryz.params3]at hA hval
 obtain⟨v0,vs0,d0,ds0,p0,q0,hargs,rfl,rfl,h0,r0⟩:=trodAll_cons hA
 obtain⟨v1,vs1,d1,ds1,p1,q1,rfl,rfl,rfl,h1,r1⟩:=trodAll_cons r0
 obtain⟨v2,vs2,d2,ds2,p2,q2,rfl,rfl,rfl,h2,r2⟩:=trodAll_cons r1
 obtain⟨rfl,rfl,rfl⟩:=trodAll_nil r2
 obtain rfl:args=#[v0,v1,v2]:=by cases args;simp_all
 obtain⟨rfl,rfl⟩:=trodVars_none hV
 simp only[List.append_nil]at hW' hA0
 refine(YT W base enc v0 v1 v2 (hval 0 29 v0 rfl rfl) (hval 1 41 v1 rfl rfl) (hval 2 42 v2 rfl rfl) h0 h1 h2 hg).mono fun e W' ⟨he,hb⟩=>?_
 subst he
 exact⟨_,rfl,zbA (pv:=[]) hW' (fun _ _ _=>(trodAll_cons_mk (shut_bool Tryz.underlying4 _) trodAll_mk0)) (xR zfW hb _ _ _ _ (by kernel_rfl) (fun x hx=>hW'.lt x hx) hA0) (fun _ _=>rfl) (List.append_nil _).symm hb⟩
noncomputable def laidWorld (os:Os):World:=
 let w0:=World.holding Tryz.prog os ⟨#[],#[],[]⟩
 {w0 with heap:=w0.heap.modify 0 fun
   | .cells _ t frozen=> .cells #[.iface 252 (.agg #[.pointer (some ⟨1,51,none⟩)])] t frozen
   |o=>o}
def wit:Array Value:=#[.agg #[.int .i64 0,.int .i64 0,.int .i64 0,.int .i64 0,.int .i64 0,.int .i64 0,.int .i64 0,.int .i64 0,.int .i64 0,.int .i64 0,.int .i64 0,.int .i64 0,.slice none 0 0,.slice none 0 0,.int .i64 0,.int .i64 0,.int .i64 0,.int .i64 0,.int .i64 0,.int .i64 0,.int .i64 0,.int .i64 0,.int .i64 0,.int .i64 0,.int .i64 0,.int .i64 0,.int .i64 0,.slice none 0 0,.slice none 0 0,.int .i64 0,.int .i64 0,.int .i64 0],.agg #[.int .i64 0,.int .i64 0,.int .i64 0,.bool false,.bool false,.bool false,.int .i64 0,.int .i64 0,.int .i64 0,.int .i64 0,.bool false,.bool false,.bool false,.int .i64 0,.int .i64 0,.int .i64 0,.int .i64 0,.bool false,.bool false,.bool false,.int .i64 0,.slice none 0 0,.slice none 0 0,.int .i64 0,.int .i64 0,.int .i64 0,.int .i64 0,.int .i64 0,.int .i64 0,.int .i64 0],.slice none 0 0]
theorem laid_met (os:Os):laidMetH Tryz.prog Rows.fccSaysRow.laid ((laidWorld os).forCall (fun _ _=>0) ⟨#[],wit,[]⟩).memory:=
 laidMetH_of_parts (laidMet_nil _ _) (by kernel_rfl)
theorem lifted (os:Os) (started:os.Started) (H:Type) (enc:TypeId × Value->H) (F:Stop.Interp):
  ReturnsInHanded {} Tryz.checked os 3 .any ((OpenSpec.ofChange Rows.fccSaysSpec).preRow enc Tryz.prog Tryz.f3 Rows.fccSaysRow.domain false Rows.fccSaysRow.laid) (((OpenSpec.ofChange Rows.fccSaysSpec).at F).post enc Tryz.prog Tryz.f3 false true false false):=by
 have hx:(DataW.whole enc Tryz.prog ((laidWorld os).forCall (fun _ _=>0) ⟨#[],wit,[]⟩).memory Tryz.f3.params.toList Rows.fccSaysSpec.vars false wit.toList 8).isSome=true:=by kernel_rfl
 obtain⟨x,hx⟩:=Option.isSome_iff_exists.1 hx
 refine returnsInHanded_of_row (C:=Tryz.checked) (s:=OpenSpec.ofChange Rows.fccSaysSpec) ziV started (by kernel_rfl) Tryz.func3
  (witness_row_at (enc:=enc) (C:=Tryz.checked) false (laidWorld os) wit rfl (by kernel_rfl) (by kernel_rfl) (by kernel_rfl)
   (OpenSpec.preRow_of_cond 8 hx (by first|rfl|kernel_rfl) (fun k hk=>by cases hk) (by kernel_rfl) (laid_met os))) ?_
 intro W base args ds gs zJ hval hW _ _ _ hL _ _
 exact contract H enc W base args ds gs zJ hval hW hL
theorem said:Rows.FccSaysSaid:=
 OpenClaim.holds_of_cond 3 Tryz.f3 rfl rfl rfl rfl rfl rfl rfl ⟨rfl,rfl,rfl,rfl,rfl⟩ rfl rfl rfl rfl rfl (by kernel_rfl) Tryz.func3 (by kernel_rfl)
  (of_decide_eq_true (by kernel_rfl)) (by unfold Func.isWrapper;first|(rw[if_pos (by decide+kernel)];kernel_rfl)|(rw[if_neg (by decide+kernel)];exact⟨rfl,rfl⟩))
  (fun os started H enc _ F=>by rw[OpenClaim.pre_eq_preRow];exact lifted os started H enc F)
theorem plain (f:FuncId) (fn:Func) (hf:Tryz.pinned.checked.prog.funcNamed "fulmar/fulmarlaw.FccSays" =some f) (hfn:Tryz.pinned.checked.prog.funcs[f]? =some fn):
  true=Tryz.pinned.checked.prog.looks []/\∀(j:Nat) t,fn.params[j]? =some t->Tryz.pinned.checked.prog.wantsStandIn t=false:=by
 obtain rfl:f=3:=Option.some.inj ((show Tryz.prog.funcNamed "fulmar/fulmarlaw.FccSays" =some 3 by kernel_rfl).symm.trans hf) |>.symm
 obtain rfl:fn=Tryz.f3:=(Option.some.inj (Tryz.func3.symm.trans hfn)).symm
 refine⟨by kernel_rfl,fun j t ht=>?_⟩
 rw[Tryz.params3]at ht
 have h3:t∈ [29,41,42]:=by
  have:=List.mem_of_getElem? (l:=[29,41,42]) (i:=j) (a:=t) (by simpa using ht)
  exact this
 simp only[List.mem_cons,List.not_mem_nil,or_false]at h3
 rcases h3 with h3|h3|h3<;>subst h3
 ·exact(show Tryz.prog.wantsStandIn 29=false by kernel_rfl)
 ·exact(show Tryz.prog.wantsStandIn 41=false by kernel_rfl)
 ·exact(show Tryz.prog.wantsStandIn 42=false by kernel_rfl)
theorem proved:Rows.FccSaysCardSaid:=
 Claim7.holds_tied_plain_at .later [] _ _ _ _ said (fun _ h=>by cases h) (by kernel_rfl) (fun _ h=>by cases h) fccSays_row_tie rfl ⟨rfl,rfl⟩ (by kernel_rfl) rfl plain (by kernel_rfl)
end Go.Proofs.YtoakpnoajmngmaaGreatDoor.lFccSays
