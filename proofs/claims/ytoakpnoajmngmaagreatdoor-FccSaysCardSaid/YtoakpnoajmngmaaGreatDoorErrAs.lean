import Derived.Test.YtoakpnoajmngmaaGreatDoorHead
import Derived.WalkKit
import Derived.RowKitTokens
import Derived.LaidEql
import Derived.Stop.Asserts
set_option linter.unusedVariables false
set_option linter.unusedSimpArgs false
namespace Go.Proofs.YtoakpnoajmngmaaGreatDoor
open Go.RowKit Go.Extern.Stop Go.Stop Go.Extern
theorem ziN (t:Value) (w:World):
  Calls Tryz.prog 92 #[.nilIface,t] w fun e w'=>e= .returned (.bool false)/\w'=w:=by
 go_enter Tryz.func92,Tryz.ntmps92
 go_wp2
 go_ret
 exact⟨rfl,rfl⟩
theorem ZM (t:Addr) (w:World):(ReflectliteValue.unpack (.iface 183 (.pointer (some t)))).run Tryz.prog w
  = .ok (.agg #[.pointer (some ⟨1,183,none⟩),.pointer (some ⟨w.heap.size,0,none⟩),.int .u64 150]) (w.alloc (.cells #[.pointer (some t)] 183)):=by kernel_rfl
theorem G4 (a:Addr) (w:World):(ReflectliteValue.methodAny (ReflectliteValue.valueError "reflectlite.Value.Type" 0) (fun t _ _ _=>ReflectliteType.toType t) #[.agg #[.pointer (some ⟨1,183,none⟩),.pointer (some a),.int .u64 150]]).run Tryz.prog w
  = .ok (.iface 252 (.agg #[.pointer (some ⟨1,183,none⟩)])) w:=by kernel_rfl
theorem mW (h:Value) (w:World):(Go.method 403 252 (.agg #[h]) "Kind").run Tryz.prog w= .ok (186,h) w:=by kernel_rfl
theorem G5 (w:World):((ReflectliteType.abiMethod fun t=>(fun a:Nat=>Value.int IntKind.u8 (a:Int))<$>Rtype.kind t) #[.pointer (some ⟨1,183,none⟩)]).run Tryz.prog w= .ok (.int .u8 22) w:=by kernel_rfl
theorem G6 (w:World):((ReflectliteType.abiMethod fun t=>(fun a:Nat=>Value.int IntKind.u8 (a:Int))<$>Rtype.kind t) #[.pointer (some ⟨1,44,none⟩)]).run Tryz.prog w= .ok (.int .u8 2) w:=by kernel_rfl
theorem rlm (z:Sem Value) (f:TypeId->Addr->Nat->Nat->Sem Value) (v:Value):
  ReflectliteValue.method z f #[v]=(do match<-ReflectliteValue.parts v with|none=>z|some (t,a,fl)=>f t a fl (fl%32)):=rfl
theorem wC (a:Addr) (w:World):(ReflectliteValue.parts (.agg #[.pointer (some ⟨1,183,none⟩),.pointer (some a),.int .u64 150])).run Tryz.prog w= .ok (some (183,a,150)) w:=by kernel_rfl
theorem KU (a p:Addr) (W:World) (ha:W.cell? a=some (.pointer (some p))):
  (ReflectliteValue.method (ReflectliteValue.valueError "reflectlite.Value.IsNil" 0) ReflectliteValue.isNil #[.agg #[.pointer (some ⟨1,183,none⟩),.pointer (some a),.int .u64 150]]).run Tryz.prog W= .ok (.bool false) W:=by
 rw[rlm]
 simp only[Sem.run_bind,wC,Result.andThen]
 simp[ReflectliteValue.isNil,loadVar,isAgg,underlying,Tryz.underlying183,ha,Result.andThen]
theorem mX (h:Value) (w:World):(Go.method 403 252 (.agg #[h]) "Elem").run Tryz.prog w= .ok (198,.agg #[h]) w:=by kernel_rfl
theorem xb (h:Value) (w:World):(Go.method 403 252 (.agg #[h]) "Implements").run Tryz.prog w= .ok (199,.agg #[h]) w:=by kernel_rfl
theorem yc (h:Value) (w:World):(Go.method 403 252 (.agg #[h]) "AssignableTo").run Tryz.prog w= .ok (196,.agg #[h]) w:=by kernel_rfl
theorem G7 (w:World):(ReflectliteType.method ReflectliteType.elem #[.agg #[.pointer (some ⟨1,183,none⟩)]]).run Tryz.prog w= .ok (.iface 252 (.agg #[.pointer (some ⟨1,44,none⟩)])) w:=by kernel_rfl
theorem vL (w:World):(ReflectliteType.relation "Implements" ReflectliteType.implements_ #[.agg #[.pointer (some ⟨1,44,none⟩)],.iface 252 (.agg #[.pointer (some ⟨1,51,none⟩)])]).run Tryz.prog w= .ok (.bool true) w:=by kernel_rfl
theorem Jh (v:Value) (w:World):(ReflectliteType.typeOf #[.iface 44 v]).run Tryz.prog w= .ok (.iface 252 (.agg #[.pointer (some ⟨1,44,none⟩)])) w:=by kernel_rfl
theorem vM (w:World):(ReflectliteType.relation "AssignableTo" ReflectliteType.assignableTo #[.agg #[.pointer (some ⟨1,44,none⟩)],.iface 252 (.agg #[.pointer (some ⟨1,44,none⟩)])]).run Tryz.prog w= .ok (.bool true) w:=by kernel_rfl
theorem ZN (e:Int) (w:World):(ReflectliteValue.unpack (.iface 44 (.int .i64 e))).run Tryz.prog w
  = .ok (.agg #[.pointer (some ⟨1,44,none⟩),.pointer (some ⟨w.heap.size,0,none⟩),.int .u64 130]) (w.alloc (.cells #[.int .i64 e] 44)):=by kernel_rfl
theorem Ji (w:World):(Rtype.elem? 183).run Tryz.prog w= .ok (some 44) w:=by kernel_rfl
theorem zbs (p:Addr) (w:World):(ReflectliteValue.mk 44 p ReflectliteValue.flagAddr).run Tryz.prog w= .ok (.agg #[.pointer (some ⟨1,44,none⟩),.pointer (some p),.int .u64 386]) w:=by kernel_rfl
theorem KV (a p:Addr) (W:World) (ha:W.cell? a=some (.pointer (some p))):
  (ReflectliteValue.method (ReflectliteValue.valueError "reflectlite.Value.Elem" 0) ReflectliteValue.elem #[.agg #[.pointer (some ⟨1,183,none⟩),.pointer (some a),.int .u64 150]]).run Tryz.prog W
   = .ok (.agg #[.pointer (some ⟨1,44,none⟩),.pointer (some p),.int .u64 386]) W:=by
 rw[rlm]
 simp only[Sem.run_bind,wC,Result.andThen]
 simp[ReflectliteValue.elem,loadVar,isAgg,underlying,Tryz.underlying183,ha,Result.andThen,Ji,zbs]
theorem rls (v x:Value):ReflectliteValue.set #[v,x]=(do
  let (some (dst,a,fl),some (src,b,_)):=(<-ReflectliteValue.parts v,<-ReflectliteValue.parts x)
   |unsupported (.noEntry "extern/(internal/reflectlite.Value).Set.zeroValue")
  if fl/ReflectliteValue.flagAddr%2==0 then unsupported (.noEntry "extern/(internal/reflectlite.Value).Set.unaddressable")
  let val<-loadVar src b
  if<-Rtype.directlyAssignable dst src then storeVar dst a val
  else if<-Rtype.implements dst src then
   if(<-Rtype.kind src)==20 then
    match val with
    | .nilIface=>unsupported (.noEntry "extern/reflectlite: a nil value of one interface type handed on as a value of another")
    |_=>storeVar dst a val
   else storeVar dst a (.iface src val)
  else panicString ("reflectlite.Set: value of type " ++(<-Rtype.spelt src)++ " is not assignable to type " ++(<-Rtype.spelt dst))
  pure (.tuple #[])):=rfl
theorem Jj (a:Addr) (w:World):(ReflectliteValue.parts (.agg #[.pointer (some ⟨1,44,none⟩),.pointer (some a),.int .u64 386])).run Tryz.prog w= .ok (some (44,a,386)) w:=by kernel_rfl
theorem KW (a:Addr) (w:World):(ReflectliteValue.parts (.agg #[.pointer (some ⟨1,44,none⟩),.pointer (some a),.int .u64 130])).run Tryz.prog w= .ok (some (44,a,130)) w:=by kernel_rfl
theorem Jk (w:World):(Rtype.directlyAssignable 44 44).run Tryz.prog w= .ok true w:=by kernel_rfl
theorem Wm (ta b:Addr) (e:Int) (old:Value) (W:World) (hb:W.cell? b=some (.int .i64 e)) (ht:W.cell? ta=some old) (hf:W.frozen? ta=false):
  (ReflectliteValue.set #[.agg #[.pointer (some ⟨1,44,none⟩),.pointer (some ta),.int .u64 386],.agg #[.pointer (some ⟨1,44,none⟩),.pointer (some b),.int .u64 130]]).run Tryz.prog W
   = .ok (.tuple #[]) (W.setCell ta (.int .i64 e)):=by
 rw[rls]
 simp only[Sem.run_bind,Jj,KW,Result.andThen]
 simp[ReflectliteValue.flagAddr,loadVar,isAgg,underlying,Tryz.underlying44,hb,Result.andThen,Jk,storeVar,Value.cells,storeCells,Addr.add]
 rw[run_store Tryz.prog W ta _ _ (by rfl)]
 simp[ht,hf]
set_option maxHeartbeats 4000000 in
theorem ziO (e:Int) (t:Addr) (old:Value) (w:World) (hg:w.cell? ⟨0,0,none⟩=some (.iface 252 (.agg #[.pointer (some ⟨1,51,none⟩)]))) (ht0:w.cell? t=some old) (hf0:w.frozen? t=false):
  Calls Tryz.prog 92 #[.iface 44 (.int .i64 e),.iface 183 (.pointer (some t))] w fun ev w'=>ev= .returned (.bool true)/\w'=((((w.alloc (.cells #[.pointer (some t)] 183)).alloc (.cells #[.pointer (some ⟨1,183,none⟩),.pointer (some ⟨w.heap.size,0,none⟩),.int .u64 150] 221)).alloc (.cells #[.pointer (some ⟨1,183,none⟩),.pointer (some ⟨w.heap.size,0,none⟩),.int .u64 150] 221)).alloc (.cells #[.int .i64 e] 44)).setCell t (.int .i64 e):=by
 have h6:=@run_callFunc_extern Tryz.prog 127 _ (fun args=>ReflectliteValue.unpack (args.getD 0 (.tuple #[]))) Tryz.func127 (by kernel_rfl) (by kernel_rfl) (by kernel_rfl) (by kernel_rfl)
 have h7:=@run_callFunc_extern Tryz.prog 128 _ (ReflectliteValue.methodAny (ReflectliteValue.valueError "reflectlite.Value.Type" 0) (fun t _ _ _=>ReflectliteType.toType t)) Tryz.func128 (by kernel_rfl) (by kernel_rfl) (by kernel_rfl) (by kernel_rfl)
 have h8:=@run_callFunc_extern Tryz.prog 129 _ (ReflectliteValue.method (ReflectliteValue.valueError "reflectlite.Value.IsNil" 0) ReflectliteValue.isNil) Tryz.func129 (by kernel_rfl) (by kernel_rfl) (by kernel_rfl) (by kernel_rfl)
 have h27:=@run_callFunc_extern Tryz.prog 186 _ (ReflectliteType.abiMethod fun t=>do pure (.int .u8 (<-Rtype.kind t))) Tryz.func186 (by kernel_rfl) (by kernel_rfl) (by kernel_rfl) (by kernel_rfl)
 have h37:=@run_callFunc_extern Tryz.prog 198 _ (ReflectliteType.method ReflectliteType.elem) Tryz.func198 (by kernel_rfl) (by kernel_rfl) (by kernel_rfl) (by kernel_rfl)
 have h38:=@run_callFunc_extern Tryz.prog 199 _ (ReflectliteType.relation "Implements" ReflectliteType.implements_) Tryz.func199 (by kernel_rfl) (by kernel_rfl) (by kernel_rfl) (by kernel_rfl)
 have h10:=@run_callFunc_extern Tryz.prog 153 _ ReflectliteType.typeOf Tryz.func153 (by kernel_rfl) (by kernel_rfl) (by kernel_rfl) (by kernel_rfl)
 have h35:=@run_callFunc_extern Tryz.prog 196 _ (ReflectliteType.relation "AssignableTo" ReflectliteType.assignableTo) Tryz.func196 (by kernel_rfl) (by kernel_rfl) (by kernel_rfl) (by kernel_rfl)
 have h11:=@run_callFunc_extern Tryz.prog 154 _ (ReflectliteValue.method (ReflectliteValue.valueError "reflectlite.Value.Elem" 0) ReflectliteValue.elem) Tryz.func154 (by kernel_rfl) (by kernel_rfl) (by kernel_rfl) (by kernel_rfl)
 have h12:=@run_callFunc_extern Tryz.prog 155 _ ReflectliteValue.set Tryz.func155 (by kernel_rfl) (by kernel_rfl) (by kernel_rfl) (by kernel_rfl)
 have tO:=Jh
 have mA:=yc
 have a25:=vM
 have v25:=ZN
 have f6:=ZM
 have f7:=G4
 have mK:=mW
 have mE:=mX
 have mI:=xb
 have k27:=G5
 have k25:=G6
 have e27:=G7
 have i25:=vL
 have n8:=KU ⟨w.heap.size,0,none⟩ t ((w.alloc (.cells #[.pointer (some t)] 183)).alloc (.cells #[.pointer (some ⟨1,183,none⟩),.pointer (some ⟨w.heap.size,0,none⟩),.int .u64 150] 221)) (by simp)
 have hlt:0<w.heap.size:=by
  rcases Nat.eq_zero_or_pos w.heap.size with h0|h
  ·simp[World.cell?,h0]at hg
  ·exact h
 have hg2:((w.alloc (.cells #[.pointer (some t)] 183)).alloc (.cells #[.pointer (some ⟨1,183,none⟩),.pointer (some ⟨w.heap.size,0,none⟩),.int .u64 150] 221)).cell? ⟨0,0,none⟩=some (.iface 252 (.agg #[.pointer (some ⟨1,51,none⟩)])):=by
  rw[World.cell?_alloc_lt _ _ ⟨0,0,none⟩ (by simp),World.cell?_alloc_lt _ _ ⟨0,0,none⟩ hlt];exact hg
 have htl:t.block<w.heap.size:=by
  rcases Nat.lt_or_ge t.block w.heap.size with h|h
  ·exact h
  ·simp[World.cell?,Array.getElem?_eq_none h]at ht0
 have el:=KV ⟨w.heap.size,0,none⟩ t (((w.alloc (.cells #[.pointer (some t)] 183)).alloc (.cells #[.pointer (some ⟨1,183,none⟩),.pointer (some ⟨w.heap.size,0,none⟩),.int .u64 150] 221)).alloc (.cells #[.pointer (some ⟨1,183,none⟩),.pointer (some ⟨w.heap.size,0,none⟩),.int .u64 150] 221)) (by rw[World.cell?_alloc_lt _ _ ⟨w.heap.size,0,none⟩ (by simp;omega)];simp)
 have st:=Wm t ⟨w.heap.size+1+1+1,0,none⟩ e old ((((w.alloc (.cells #[.pointer (some t)] 183)).alloc (.cells #[.pointer (some ⟨1,183,none⟩),.pointer (some ⟨w.heap.size,0,none⟩),.int .u64 150] 221)).alloc (.cells #[.pointer (some ⟨1,183,none⟩),.pointer (some ⟨w.heap.size,0,none⟩),.int .u64 150] 221)).alloc (.cells #[.int .i64 e] 44))
  (by rw[World.cell?_alloc_at _ _ _ _ (by simp)];rfl)
  (by rw[World.cell?_alloc_lt _ _ t (by simp;omega),World.cell?_alloc_lt _ _ t (by simp;omega),World.cell?_alloc_lt _ _ t (by simp;omega),World.cell?_alloc_lt _ _ t htl];exact ht0)
  (by rw[World.frozen?_alloc_old _ _ t (by simp;omega),World.frozen?_alloc_old _ _ t (by simp;omega),World.frozen?_alloc_old _ _ t (by simp;omega),World.frozen?_alloc_old _ _ t (Nat.ne_of_lt htl)];exact hf0)
 go_enter Tryz.func92,Tryz.ntmps92
 go_wp2
 refine wp_loop_rounds 1 ?_
 rw[rounds_succ]
 go_wp2
 go_ret
 exact⟨rfl,rfl⟩
end Go.Proofs.YtoakpnoajmngmaaGreatDoor
