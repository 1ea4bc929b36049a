import Derived.Test.YtoakpnoajmngmaaGreatDoorWgPl
import Derived.BigGuardPart
set_option linter.unusedVariables false
set_option linter.unusedSimpArgs false
namespace Go.Proofs.YtoakpnoajmngmaaGreatDoor
open Go.RowKit
def YE (l s t d:Int):Int:=if 0<=l/\l<=255/\0<=s/\s<=3/\0<=t/\t<=3/\ -262144<=d/\d<=262143 then 0 else 1
set_option maxHeartbeats 400000 in
theorem zaz (l s t d:Int) (w:World):Calls Tryz.prog 150 #[.agg #[.int .i64 l,.int .i64 s,.int .i64 t,.int .i64 d]] w fun e w'=>
  e= .returned (qp (YE l s t d))/\w.alloc (.cells #[.int .i64 l,.int .i64 s,.int .i64 t,.int .i64 d] 136)=w':=by
 have hE:Hid (YE l s t d=if 0<=l/\l<=255/\0<=s/\s<=3/\0<=t/\t<=3/\ -262144<=d/\d<=262143 then 0 else 1):=rfl
 generalize YE l s t d=r at*
 go_enter Tryz.func150,Tryz.ntmps150
 go_wp2
 all_goals go_ret
 all_goals refine⟨?_,rfl⟩
 all_goals rw[hE.out]
 all_goals first|(rw[if_neg (by omega)];rfl)|(rw[if_pos (by omega)];rfl)
theorem zft {a b:Int} {v:Value} (h:a=b):Ending.returned (.tuple #[.int .u32 a,v])= .returned (.tuple #[.int .u32 b,v]):=by rw[h]
theorem GE (a b i:Nat) (h:a<2^i):a ||| (2^i*b)=a+2^i*b:=by
 rw[Nat.or_comm,<-Nat.two_pow_add_eq_or_of_lt h];omega
theorem zdI (T s t:Nat) (d:Int) (hT:T<256) (h2:s<4) (h3:t<4) (h4: -262144<=d) (h5:d<=262143):
  bits .or .u32 (bits .or .u32 (bits .or .u32 (T:Int) (IntKind.u32.wrap (IntKind.u32.wrap (s:Int)*256))) (IntKind.u32.wrap (bits .and .u32 (IntKind.u32.wrap d) 524287*1024))) (IntKind.u32.wrap (IntKind.u32.wrap (t:Int)*536870912))=((T+s*256+jm d*1024+t*536870912:Nat):Int):=by
 have e1:IntKind.u32.wrap (IntKind.u32.wrap (s:Int)*256)=((2^8*s:Nat):Int):=by simp only[IntKind.wrap_u32];omega
 have e2:IntKind.u32.wrap (IntKind.u32.wrap (t:Int)*536870912)=((2^29*t:Nat):Int):=by simp only[IntKind.wrap_u32];omega
 have e3:IntKind.u32.wrap d=(((d%4294967296).toNat:Nat):Int):=by rw[IntKind.wrap_u32];omega
 have e4:bits .and .u32 (IntKind.u32.wrap d) 524287=((jm d:Nat):Int):=by
  rw[e3,show(524287:Int)=((2^19-1:Nat):Int)by rfl,vY _ 19 (by omega) (by omega)]
  unfold jm
  omega
 have hb:=gy d
 have e5:IntKind.u32.wrap (bits .and .u32 (IntKind.u32.wrap d) 524287*1024)=((2^10*jm d:Nat):Int):=by rw[e4,IntKind.wrap_u32];omega
 rw[e1,e2,e5,Jn _ _ (by omega) (by omega),GE T s 8 (by omega),Jn _ _ (by omega) (by omega),GE _ _ 10 (by omega),Jn _ _ (by omega) (by omega),GE _ _ 29 (by omega)]
 omega
set_option maxHeartbeats 400000 in
theorem YF (l s t:Nat) (d:Int) (T V Q:Nat) (o:Bool) (w:World) (h1:l<256) (h2:s<4) (h3:t<4) (h4: -262144<=d) (h5:d<=262143) (hT:Unit->qV l=T) (hT2:T<256)
  (hV:Unit->T+s*256+jm d*1024+t*536870912=V) (hV2:V<2147483648) (ho:Unit->mY V=o) (hQ:Unit->(if o then V else mN V)=Q):Calls Tryz.prog 120 #[.agg #[.int .i64 l,.int .i64 s,.int .i64 t,.int .i64 d]] w fun e w'=>
  e= .returned (.tuple #[.int .u32 Q,qp 0])/\Below w.heap.size w w':=by
 have h0:(YE l s t d !=0)=false:=by unfold YE;rw[if_pos (by omega)];rfl
 have hp:qp (YE l s t d)= .nilIface:=by unfold YE;rw[if_pos (by omega)];rfl
 have hps:=fun u=>(zdI T s t d hT2 h2 h3 h4 h5).trans (by rw[hV u])
 have hbit:2^31<=2147483648:=by omega
 have g31:=GE V 1 31 (by omega)
 have hOr:Unit->bits .or .u32 (V:Int) 2147483648=((mN V:Nat):Int):=fun _=>by
  rw[show(2147483648:Int)=((2^31*1:Nat):Int)by rfl,Jn _ _ (by omega) (by omega),g31];rfl
 clear g31 hbit
 go_enter Tryz.func120,Tryz.ntmps120
 go_wp2_with (go_at_call 150;((with_reducible refine(zaz _ _ _ _ _).mono ?_);rintro e w' ⟨rfl,rfl⟩))
 have f1:IntKind.u32.wrap (l:Int)=l:=by rw[IntKind.wrap_u32];omega
 go_region_held3 (fun ω=>ω.cell? ⟨w.heap.size,0,none⟩=some (.int .i64 l)/\ω.cell? ⟨w.heap.size,1,none⟩=some (.int .i64 s)/\ω.cell? ⟨w.heap.size,2,none⟩=some (.int .i64 t)/\ω.cell? ⟨w.heap.size,3,none⟩=some (.int .i64 d)) (first|(refine⟨?_,?_,?_,?_⟩<;>(repeat'(first|(with_reducible assumption)|(with_reducible refine zn ?_)|(with_reducible refine zt ?_)|(with_reducible refine zw ?_)|(with_reducible refine zS ?_ ?_)|(with_reducible refine za (by assumption) ?_ ?_)|omega|(simp;done)|(simp;omega)))<;>done)|go_keep) (first|(go_at_call 106;((with_reducible refine(kZ _ _ _ (by omega) hT).mono ?_);rintro e w' ⟨rfl,rfl⟩)))
 rw[hps ()]
 clear hps f1
 cases o
 ·go_wp2_with (go_at_call 105;((with_reducible refine(kH _ _ _ (by omega) ho).mono ?_);rintro e w' ⟨rfl,rfl⟩))
  go_ret2
  exact⟨zft ((hOr ()).trans (by rw[<-hQ ()];rfl)),gW⟩
 ·go_wp2_with (go_at_call 105;((with_reducible refine(kH _ _ _ (by omega) ho).mono ?_);rintro e w' ⟨rfl,rfl⟩))
  go_ret2
  exact⟨zft (by rw[<-hQ ()];rfl),gW⟩
theorem zdJ (T s t D:Nat) (V:Nat) (h:T+s*256+D*1024+t*536870912=V):(if mY V then V else mN V)=xO T s t D:=by
 unfold xO;rw[h]
theorem zdK (l s t:Nat) (d:Int) (w:World) (h1:l<256) (h2:s<4) (h3:t<4) (h4: -262144<=d) (h5:d<=262143):Calls Tryz.prog 120 #[.agg #[.int .i64 l,.int .i64 s,.int .i64 t,.int .i64 d]] w fun e w'=>
  e= .returned (.tuple #[.int .u32 (xO (qV l) s t (jm d):Nat),qp 0])/\Below w.heap.size w w':=by
 have hT:=yL l
 have hb:=gy d
 exact YF l s t d (qV l) _ _ _ w h1 h2 h3 h4 h5 (fun _=>rfl) hT (fun _=>rfl) (by omega) (fun _=>rfl) (fun _=>zdJ _ _ _ _ _ rfl)
end Go.Proofs.YtoakpnoajmngmaaGreatDoor
namespace Go.Proofs.YtoakpnoajmngmaaGreatDoor
open Go.RowKit
theorem YG (T s t D:Nat):∃y,xO T s t D=T+s*256+D*1024+t*536870912+y*2147483648/\y<=1:=by
 unfold xO
 split
 ·exact⟨0,by omega,by omega⟩
 ·exact⟨1,by unfold mN;omega,by omega⟩
theorem zdL (T s t D:Nat) (h1:T<256) (h2:s<4) (h3:t<4) (h4:D<524288):xO T s t D<4294967296:=by
 obtain⟨y,h,hy⟩:=YG T s t D;omega
end Go.Proofs.YtoakpnoajmngmaaGreatDoor
