import Derived.Test.YtoakpnoajmngmaaGreatDoorLineA
import Derived.Test.YtoakpnoajmngmaaGreatDoorFsG
import Derived.Test.YtoakpnoajmngmaaGreatDoorSlots
import Derived.Test.YtoakpnoajmngmaaGreatDoorFix
set_option linter.unusedVariables false
set_option linter.unusedSimpArgs false
namespace Go.Proofs.YtoakpnoajmngmaaGreatDoor.Sx
open Go.RowKit
structure FsI0 (C:Frm) (w:World):Prop where
 ok:∀k,(C.G k).ok w
 ks:∀k,k<4->(C.G k).ks=[true]
 sv:∀k,k=4\/k=5->(C.G k).ks=[true,true,false]
 kw:(C.G 6).ks=[]
 ax:∀k j,B64 (C.ax k j)
 bk:∀k j,B64 (C.bk k j)
 hd:∀k j,B64 (C.hd k j)
 lim:B64 C.lim
 con:B64 C.con
 law:B64 C.law
section
variable {C:Frm} {ρ:Env} {w0:World} {fn:(Nat->GD)->Nat->List Int->Int} {fb:(Nat->GD)->Nat->List Int->Bool} {r:Nat->Int × Int}
theorem YS (J:Jq fn fb C.G C.ivM C.bvM ρ) (I:FsI0 C w0) {k:Nat} (hk:k<7) {sh:List CK} (hsh:(C.G k).ks.map vN=sh) (hks:(C.G k).ks.length<=100) (hr:0<=(r k).1/\(r k).1<=(C.G k).n/\((C.G k).n:Int)<=(r k).2) (N:Nat->Prop) (b:Bd):(JE r k sh).ok ρ N/\(JE r k sh).den ρ b= .slice (C.G k).A (C.G k).n (C.G k).c:=by
 refine J.std.osl I.ok (k:=k) (sh:=sh) hsh hks (e:= .v (100+k)) (lo:=(r k).1) (hi:=(r k).2) ?_ hr.1 hr.2.1 hr.2.2 N b
 show ρ.iv (100+k)=_
 rw[J.at_ _ (Nat.ble_eq_true_of_le (by omega))]
 unfold Frm.ivM
 rw[if_neg (by omega),if_neg (by omega),if_neg (by omega),if_neg (by omega),if_pos (by omega),show 100+k-100=k by omega]
theorem zfw (J:Jq fn fb C.G C.ivM C.bvM ρ) (I:FsI0 C w0) (hr:∀k,k<7->0<=(r k).1/\(r k).1<=(C.G k).n/\((C.G k).n:Int)<=(r k).2) (N:Nat->Prop) (b:Bd):SV.okL ρ N (xq r)/\SV.denL ρ b (xq r)=[qd C,qD C,Zg C]:=by
 have v20:(E.v 20).i ρ=C.ax 0 0:=J.at_ 20 rfl
 have v21:(E.v 21).i ρ=C.ax 0 1:=J.at_ 21 rfl
 have v22:(E.v 22).i ρ=C.ax 0 2:=J.at_ 22 rfl
 have v23:(E.v 23).i ρ=C.ax 0 3:=J.at_ 23 rfl
 have v24:(E.v 24).i ρ=C.ax 0 4:=J.at_ 24 rfl
 have v25:(E.v 25).i ρ=C.ax 0 5:=J.at_ 25 rfl
 have v26:(E.v 26).i ρ=C.ax 0 6:=J.at_ 26 rfl
 have v27:(E.v 27).i ρ=C.ax 0 7:=J.at_ 27 rfl
 have v28:(E.v 28).i ρ=C.ax 0 8:=J.at_ 28 rfl
 have v29:(E.v 29).i ρ=C.ax 0 9:=J.at_ 29 rfl
 have v30:(E.v 30).i ρ=C.ax 0 10:=J.at_ 30 rfl
 have v31:(E.v 31).i ρ=C.ax 0 11:=J.at_ 31 rfl
 have v32:(E.v 32).i ρ=C.ax 0 12:=J.at_ 32 rfl
 have v40:(E.v 40).i ρ=C.ax 1 0:=J.at_ 40 rfl
 have v41:(E.v 41).i ρ=C.ax 1 1:=J.at_ 41 rfl
 have v42:(E.v 42).i ρ=C.ax 1 2:=J.at_ 42 rfl
 have v43:(E.v 43).i ρ=C.ax 1 3:=J.at_ 43 rfl
 have v44:(E.v 44).i ρ=C.ax 1 4:=J.at_ 44 rfl
 have v45:(E.v 45).i ρ=C.ax 1 5:=J.at_ 45 rfl
 have v46:(E.v 46).i ρ=C.ax 1 6:=J.at_ 46 rfl
 have v47:(E.v 47).i ρ=C.ax 1 7:=J.at_ 47 rfl
 have v48:(E.v 48).i ρ=C.ax 1 8:=J.at_ 48 rfl
 have v49:(E.v 49).i ρ=C.ax 1 9:=J.at_ 49 rfl
 have v50:(E.v 50).i ρ=C.ax 1 10:=J.at_ 50 rfl
 have v51:(E.v 51).i ρ=C.ax 1 11:=J.at_ 51 rfl
 have v52:(E.v 52).i ρ=C.ax 1 12:=J.at_ 52 rfl
 have v60:(E.v 60).i ρ=C.lim:=J.at_ 60 rfl
 have v61:(E.v 61).i ρ=C.con:=J.at_ 61 rfl
 have v110:(E.v 110).i ρ=C.bk 0 0:=J.at_ 110 rfl
 have v111:(E.v 111).i ρ=C.bk 0 1:=J.at_ 111 rfl
 have v112:(E.v 112).i ρ=C.bk 0 2:=J.at_ 112 rfl
 have v116:(E.v 116).i ρ=C.bk 0 6:=J.at_ 116 rfl
 have v120:(E.v 120).i ρ=C.bk 1 0:=J.at_ 120 rfl
 have v121:(E.v 121).i ρ=C.bk 1 1:=J.at_ 121 rfl
 have v122:(E.v 122).i ρ=C.bk 1 2:=J.at_ 122 rfl
 have v126:(E.v 126).i ρ=C.bk 1 6:=J.at_ 126 rfl
 have v130:(E.v 130).i ρ=C.bk 2 0:=J.at_ 130 rfl
 have v131:(E.v 131).i ρ=C.bk 2 1:=J.at_ 131 rfl
 have v132:(E.v 132).i ρ=C.bk 2 2:=J.at_ 132 rfl
 have v136:(E.v 136).i ρ=C.bk 2 6:=J.at_ 136 rfl
 have v150:(E.v 150).i ρ=C.hd 0 0:=J.at_ 150 rfl
 have v151:(E.v 151).i ρ=C.hd 0 1:=J.at_ 151 rfl
 have v152:(E.v 152).i ρ=C.hd 0 2:=J.at_ 152 rfl
 have v160:(E.v 160).i ρ=C.hd 1 0:=J.at_ 160 rfl
 have v161:(E.v 161).i ρ=C.hd 1 1:=J.at_ 161 rfl
 have v162:(E.v 162).i ρ=C.hd 1 2:=J.at_ 162 rfl
 have v170:(E.v 170).i ρ=C.law:=J.at_ 170 rfl
 have b113:(E.bv 113).b ρ=C.bo 0 0:=J.bt 113 rfl
 have b114:(E.bv 114).b ρ=C.bo 0 1:=J.bt 114 rfl
 have b115:(E.bv 115).b ρ=C.bo 0 2:=J.bt 115 rfl
 have b123:(E.bv 123).b ρ=C.bo 1 0:=J.bt 123 rfl
 have b124:(E.bv 124).b ρ=C.bo 1 1:=J.bt 124 rfl
 have b125:(E.bv 125).b ρ=C.bo 1 2:=J.bt 125 rfl
 have b133:(E.bv 133).b ρ=C.bo 2 0:=J.bt 133 rfl
 have b134:(E.bv 134).b ρ=C.bo 2 1:=J.bt 134 rfl
 have b135:(E.bv 135).b ρ=C.bo 2 2:=J.bt 135 rfl
 obtain⟨o0,d0⟩:=YS (r:=r) J I (show 0<7 by omega) (sh:=shI) (by rw[I.ks 0 (by omega)];rfl) (by rw[I.ks 0 (by omega)];decide) (hr 0 (by omega)) N b
 obtain⟨o1,d1⟩:=YS (r:=r) J I (show 1<7 by omega) (sh:=shI) (by rw[I.ks 1 (by omega)];rfl) (by rw[I.ks 1 (by omega)];decide) (hr 1 (by omega)) N b
 obtain⟨o2,d2⟩:=YS (r:=r) J I (show 2<7 by omega) (sh:=shI) (by rw[I.ks 2 (by omega)];rfl) (by rw[I.ks 2 (by omega)];decide) (hr 2 (by omega)) N b
 obtain⟨o3,d3⟩:=YS (r:=r) J I (show 3<7 by omega) (sh:=shI) (by rw[I.ks 3 (by omega)];rfl) (by rw[I.ks 3 (by omega)];decide) (hr 3 (by omega)) N b
 obtain⟨o4,d4⟩:=YS (r:=r) J I (show 4<7 by omega) (sh:=shS) (by rw[I.sv 4 (by omega)];rfl) (by rw[I.sv 4 (by omega)];decide) (hr 4 (by omega)) N b
 obtain⟨o5,d5⟩:=YS (r:=r) J I (show 5<7 by omega) (sh:=shS) (by rw[I.sv 5 (by omega)];rfl) (by rw[I.sv 5 (by omega)];decide) (hr 5 (by omega)) N b
 obtain⟨o6,d6⟩:=YS (r:=r) J I (show 6<7 by omega) (sh:=[]) (by rw[I.kw];rfl) (by rw[I.kw];decide) (hr 6 (by omega)) N b
 refine⟨⟨?_,?_,o6,trivial⟩,?_⟩
 ·show SV.okL ρ N (Vo r 0++Vo r 1++[zy 60,zy 61])
  simp only[Vo,zy,List.cons_append,List.nil_append,SV.okL,SV.ok,R.ok,and_true]
  simp only[v20,v21,v22,v23,v24,v25,v26,v27,v28,v29,v30,v31,v32,v40,v41,v42,v43,v44,v45,v46,v47,v48,v49,v50,v51,v52,v60,v61]
  exact⟨I.ax 0 0,I.ax 0 1,I.ax 0 2,I.ax 0 3,I.ax 0 4,I.ax 0 5,I.ax 0 6,I.ax 0 7,I.ax 0 8,I.ax 0 9,I.ax 0 10,I.ax 0 11,o0,o1,I.ax 0 12,I.ax 1 0,I.ax 1 1,I.ax 1 2,I.ax 1 3,I.ax 1 4,I.ax 1 5,I.ax 1 6,I.ax 1 7,I.ax 1 8,I.ax 1 9,I.ax 1 10,I.ax 1 11,o2,o3,I.ax 1 12,I.lim,I.con⟩
 ·show SV.okL ρ N (zY 0++zY 1++zY 2++[JE r 4 shS,JE r 5 shS]++qT 0++qT 1++[zy 170])
  simp only[zY,qT,zy,List.cons_append,List.nil_append,SV.okL,SV.ok,R.ok,and_true]
  simp only[v110,v111,v112,v116,v120,v121,v122,v126,v130,v131,v132,v136,v150,v151,v152,v160,v161,v162,v170]
  exact⟨I.bk 0 0,I.bk 0 1,I.bk 0 2,trivial,trivial,trivial,I.bk 0 6,I.bk 1 0,I.bk 1 1,I.bk 1 2,trivial,trivial,trivial,I.bk 1 6,I.bk 2 0,I.bk 2 1,I.bk 2 2,trivial,trivial,trivial,I.bk 2 6,o4,o5,I.hd 0 0,I.hd 0 1,I.hd 0 2,I.hd 1 0,I.hd 1 1,I.hd 1 2,I.law⟩
 ·rw[show SV.denL ρ b (xq r)=[.agg #[.int .i64 ((E.v 20).i ρ),.int .i64 ((E.v 21).i ρ),.int .i64 ((E.v 22).i ρ),.int .i64 ((E.v 23).i ρ),.int .i64 ((E.v 24).i ρ),.int .i64 ((E.v 25).i ρ),.int .i64 ((E.v 26).i ρ),.int .i64 ((E.v 27).i ρ),.int .i64 ((E.v 28).i ρ),.int .i64 ((E.v 29).i ρ),.int .i64 ((E.v 30).i ρ),.int .i64 ((E.v 31).i ρ),(JE r 0 shI).den ρ b,(JE r 1 shI).den ρ b,.int .i64 ((E.v 32).i ρ),.int .i64 ((E.v 40).i ρ),.int .i64 ((E.v 41).i ρ),.int .i64 ((E.v 42).i ρ),.int .i64 ((E.v 43).i ρ),.int .i64 ((E.v 44).i ρ),.int .i64 ((E.v 45).i ρ),.int .i64 ((E.v 46).i ρ),.int .i64 ((E.v 47).i ρ),.int .i64 ((E.v 48).i ρ),.int .i64 ((E.v 49).i ρ),.int .i64 ((E.v 50).i ρ),.int .i64 ((E.v 51).i ρ),(JE r 2 shI).den ρ b,(JE r 3 shI).den ρ b,.int .i64 ((E.v 52).i ρ),.int .i64 ((E.v 60).i ρ),.int .i64 ((E.v 61).i ρ)],.agg #[.int .i64 ((E.v 110).i ρ),.int .i64 ((E.v 111).i ρ),.int .i64 ((E.v 112).i ρ),.bool ((E.bv 113).b ρ),.bool ((E.bv 114).b ρ),.bool ((E.bv 115).b ρ),.int .i64 ((E.v 116).i ρ),.int .i64 ((E.v 120).i ρ),.int .i64 ((E.v 121).i ρ),.int .i64 ((E.v 122).i ρ),.bool ((E.bv 123).b ρ),.bool ((E.bv 124).b ρ),.bool ((E.bv 125).b ρ),.int .i64 ((E.v 126).i ρ),.int .i64 ((E.v 130).i ρ),.int .i64 ((E.v 131).i ρ),.int .i64 ((E.v 132).i ρ),.bool ((E.bv 133).b ρ),.bool ((E.bv 134).b ρ),.bool ((E.bv 135).b ρ),.int .i64 ((E.v 136).i ρ),(JE r 4 shS).den ρ b,(JE r 5 shS).den ρ b,.int .i64 ((E.v 150).i ρ),.int .i64 ((E.v 151).i ρ),.int .i64 ((E.v 152).i ρ),.int .i64 ((E.v 160).i ρ),.int .i64 ((E.v 161).i ρ),.int .i64 ((E.v 162).i ρ),.int .i64 ((E.v 170).i ρ)],(JE r 6 []).den ρ b]from by simp only[xq,JF,JG,Vo,zY,qT,zy,List.cons_append,List.nil_append,SV.denL,zA,zh,jM]]
  rw[d0,d1,d2,d3,d4,d5,d6,v20,v21,v22,v23,v24,v25,v26,v27,v28,v29,v30,v31,v32,v40,v41,v42,v43,v44,v45,v46,v47,v48,v49,v50,v51,v52,v60,v61,v110,v111,v112,v116,v120,v121,v122,v126,v130,v131,v132,v136,v150,v151,v152,v160,v161,v162,v170,b113,b114,b115,b123,b124,b125,b133,b134,b135]
  rfl
theorem zmS (C:Frm):0<=pst C/\pst C<=5:=by
 have h:=C.pcr_bd
 unfold pst
 split
 ·split<;>omega
 ·exact h
structure FuE (C:Frm) (ρ:Env):Prop where
 j:Jq (fun _ _ _=>pst C) noB C.G C.ivM C.bvM ρ
 mn:ρ.mn=fun k i=>if k=1/\i=0 then[jZ]else[]
 es:ρ.es=fun k i=>if k=1/\i=0 then(some ⟨0,0,none⟩,0,0)else(none,0,0)
theorem zen (C:Frm):∃ρ,FuE C ρ:=
 ⟨{ja 44 C.ivM C.bvM (fun id _=>pst C) (fun _ _=>false) (fun _ _=>[]) C.G with
   mn:=fun k i=>if k=1/\i=0 then[jZ]else[]
   es:=fun k i=>if k=1/\i=0 then(some ⟨0,0,none⟩,0,0)else(none,0,0)},
  ⟨⟨⟨rfl,rfl,rfl,rfl,rfl,rfl⟩,fun _ _=>rfl,fun _ _=>rfl⟩,rfl,rfl⟩⟩
theorem FuE.mem (E:FuE C ρ) (I:FsI0 C w0) (hl:ErrLaid w0):Mem ρ (· <w0.heap.size) w0:=by
 refine⟨?_,?_⟩
 ·intro k i v hv
  rw[E.j.std.mv]at hv
  obtain⟨h1,h2,h3,h4⟩:=yi hv
  obtain⟨bl,off,e1,e2,e3⟩:=(I.ok k).cell _ _ h1 h2
  rw[E.j.std.ov]
  exact⟨bl,off,e1,e2,by rw[h4,h3];exact e3⟩
 ·intro k i q v hv
  simp only[E.mn]at hv
  simp only[E.es]
  by_cases hc:k=1/\i=0
  ·rw[if_pos hc]at hv
   rw[if_pos hc]
   match q,hv with
   |0,hv=>
    have hv:some jZ=some v:=hv
    cases hv
    exact⟨0,0,rfl,hl.lt,hl⟩
   |q+1,hv=>simp at hv
  ·rw[if_neg hc]at hv
   simp at hv
theorem gt {sum:zl} (hr:chk (zH Tryz.prog 44 (qb sum qx 50 100000) (zi Tryz.prog 44) 20 [] 3 (xq r) [] 0) (.bc true) []=true) (E:FuE C ρ) (I:FsI0 C w0) (hl:ErrLaid w0) (hb:∀k,k<7->0<=(r k).1/\(r k).1<=(C.G k).n/\((C.G k).n:Int)<=(r k).2) (hs:HOK Tryz.prog ρ sum):
  Calls Tryz.prog 3 #[qd C,qD C,Zg C] w0 fun x w'=>x= .returned (.bool true)/\Below w0.heap.size w0 w':=by
 obtain⟨c,vs,r1,r2,r3⟩:=zfs hr
 obtain⟨a1,a2⟩:=zfw E.j I hb (· <0) bd0
 have key:=GB E.j.std.et hs r1 (r3 ρ (fun v hv=>by cases hv)) r2 rfl bd0 w0 (qU _ _ _ _) a1 (E.mem I hl)
 rw[a2]at key
 exact key
theorem FsI0.toI (I:FsI0 C w0) (h:∀k,k<4->(C.G k).n<=20) (h':∀k,k=4\/k=5->(C.G k).n<=9):FsI C w0:=⟨I.ok,I.ks,I.sv,h,h',I.ax,I.bk,I.hd,I.lim,I.con,I.law⟩
theorem GN {F:FuncId} {v0:SV} {V:Value} (E:FuE C ρ) (I:FsI0 C w0) (I':FsI C w0) (hb:∀k,k<7->0<=(r k).1/\(r k).1<=(C.G k).n/\((C.G k).n:Int)<=(r k).2) (hv:∀b,v0.den ρ b=V) (ho:∀N,v0.ok ρ N)
  (hF:∀w,FsI C w->ErrLaid w->Calls Tryz.prog F #[qd C,qD C] w fun e w'=>e= .returned V/\Below w.heap.size w w'):HOK Tryz.prog ρ (zb F (Vp r v0)):=by
 refine zo fun args gs v hp hg b base w N hok hm hbase=>?_
 unfold Vp at hp
 split at hp
 ·rename_i hs
  cases hp
  have:=SV.sameL_eq _ _ hs
  subst this
  have e:=(zfw (r:=r) E.j I hb N b).2
  have e3:SV.denL ρ b (xq r)=[(JF r).den ρ b,(JG r).den ρ b,(JE r 6 []).den ρ b]:=by simp only[xq,SV.denL]
  rw[e3]at e
  simp only[List.cons.injEq,and_true]at e
  rw[show(SV.denL ρ b [JF r,JG r]).toArray=#[qd C,qD C]from by simp only[SV.denL];rw[e.1,e.2.1]]
  exact(hF w (I'.at fun k=>E.j.std.row I.ok hm hbase k) (K8 hm (by rw[E.mn];rfl) (by rw[E.es];rfl))).mono fun e w' h=>⟨by rw[h.1,hv],ho N,h.2⟩
 ·cases hp
theorem zii (E:FuE C ρ) (I:FsI0 C w0):HOK Tryz.prog ρ (zb 35 zgw):=by
 refine zo fun args gs v hp hg b base w N hok hm hbase=>?_
 unfold zgw at hp
 split at hp
 ·rename_i q
  split at hp
  ·rename_i h65
   have h65:=of_decide_eq_true h65
   cases hp
   have h1:=E.j.std.slice (b:=b) hok.1
   obtain⟨⟨⟨r0,r1⟩,r2,r3,r4⟩,_⟩:=hok
   rw[E.j.std.ol]at r4
   have hn:(64:Nat)<(C.G 6).n:=by
    have:(65:Int)<=((C.G 6).n:Int):=by rw[<-r4];omega
    omega
   rw[show(SV.denL ρ b [.osl 6 [] q]).toArray=#[.slice (C.G 6).A (C.G 6).n (C.G 6).c]from by simp only[SV.denL,h1]]
   refine(VZ (C.G 6).A (C.G 6).c (C.G 6).n w hn (I.ok 6).n).mono fun e w' h=>⟨?_,⟨trivial,⟨Int.le_refl _,Int.le_refl _⟩,⟨Int.le_refl _,Int.le_refl _⟩,trivial⟩,h.2⟩
   rw[h.1]
   rfl
  ·cases hp
 ·cases hp
end
theorem Ky {C:Frm} {w0:World} {f:Nat->Nat} (I:FsI0 C w0) (hl:ErrLaid w0) (hN:C.N=nn (C.G 4).n (C.G 5).n) (hw:kj w0 (C.G 6).A (C.G 6).n f) (hf32:∀k,f k<4294967296) (hCL:C.L=gath f (C.G 6).n):
  Calls Tryz.prog 3 #[qd C,qD C,Zg C] w0 fun x w'=>x= .returned (.bool true)/\Below w0.heap.size w0 w':=by
 obtain⟨ρ,E⟩:=zen C
 have hmx:∀k,((C.G k).n:Int)<=mx:=fun k=>by have:=(I.ok k).n;unfold mx;omega
 have early:∀q,(∀k,k<7->znf k<q->((C.G k).n:Int)<=small k)->(∀k,k<7->znf k=q->small k<(C.G k).n)->∀k,k<7->0<=(rG q k).1/\(rG q k).1<=(C.G k).n/\((C.G k).n:Int)<=(rG q k).2:=fun q h1 h2 k hk=>by
  have hs:0<=small k:=by unfold small;(repeat' split)<;>omega
  unfold rG
  split
  ·rename_i hq;exact⟨Int.le_refl _,Int.natCast_nonneg _,h1 k hk hq⟩
  ·split
   ·rename_i hq;exact⟨by show 0<=small k+1;omega,h2 k hk hq,hmx k⟩
   ·exact⟨Int.le_refl _,Int.natCast_nonneg _,hmx k⟩
 have seven:∀ {P:Nat->Prop},P 0->P 1->P 2->P 3->P 4->P 5->P 6->∀k,k<7->P k:=fun p0 p1 p2 p3 p4 p5 p6 k hk=>by
  obtain rfl|rfl|rfl|rfl|rfl|rfl|rfl:k=0\/k=1\/k=2\/k=3\/k=4\/k=5\/k=6:=by omega
  all_goals assumption
 by_cases g0:20<(C.G 0).n
 ·exact gt zgx E I hl (early 0 (seven (fun h=>by exact absurd h (by decide)) (fun h=>by exact absurd h (by decide)) (fun h=>by exact absurd h (by decide)) (fun h=>by exact absurd h (by decide)) (fun h=>by exact absurd h (by decide)) (fun h=>by exact absurd h (by decide)) (fun h=>by exact absurd h (by decide))) (seven (fun h=>by show(20:Int)<(C.G 0).n;omega) (fun h=>by exact absurd h (by decide)) (fun h=>by exact absurd h (by decide)) (fun h=>by exact absurd h (by decide)) (fun h=>by exact absurd h (by decide)) (fun h=>by exact absurd h (by decide)) (fun h=>by exact absurd h (by decide)))) (zP _ _)
 by_cases g1:20<(C.G 1).n
 ·exact gt zgy E I hl (early 1 (seven (fun h=>by show((C.G 0).n:Int)<=20;omega) (fun h=>by exact absurd h (by decide)) (fun h=>by exact absurd h (by decide)) (fun h=>by exact absurd h (by decide)) (fun h=>by exact absurd h (by decide)) (fun h=>by exact absurd h (by decide)) (fun h=>by exact absurd h (by decide))) (seven (fun h=>by exact absurd h (by decide)) (fun h=>by show(20:Int)<(C.G 1).n;omega) (fun h=>by exact absurd h (by decide)) (fun h=>by exact absurd h (by decide)) (fun h=>by exact absurd h (by decide)) (fun h=>by exact absurd h (by decide)) (fun h=>by exact absurd h (by decide)))) (zP _ _)
 by_cases g2:20<(C.G 2).n
 ·exact gt zgz E I hl (early 2 (seven (fun h=>by show((C.G 0).n:Int)<=20;omega) (fun h=>by show((C.G 1).n:Int)<=20;omega) (fun h=>by exact absurd h (by decide)) (fun h=>by exact absurd h (by decide)) (fun h=>by exact absurd h (by decide)) (fun h=>by exact absurd h (by decide)) (fun h=>by exact absurd h (by decide))) (seven (fun h=>by exact absurd h (by decide)) (fun h=>by exact absurd h (by decide)) (fun h=>by show(20:Int)<(C.G 2).n;omega) (fun h=>by exact absurd h (by decide)) (fun h=>by exact absurd h (by decide)) (fun h=>by exact absurd h (by decide)) (fun h=>by exact absurd h (by decide)))) (zP _ _)
 by_cases g3:20<(C.G 3).n
 ·exact gt zgA E I hl (early 3 (seven (fun h=>by show((C.G 0).n:Int)<=20;omega) (fun h=>by show((C.G 1).n:Int)<=20;omega) (fun h=>by show((C.G 2).n:Int)<=20;omega) (fun h=>by exact absurd h (by decide)) (fun h=>by exact absurd h (by decide)) (fun h=>by exact absurd h (by decide)) (fun h=>by exact absurd h (by decide))) (seven (fun h=>by exact absurd h (by decide)) (fun h=>by exact absurd h (by decide)) (fun h=>by exact absurd h (by decide)) (fun h=>by show(20:Int)<(C.G 3).n;omega) (fun h=>by exact absurd h (by decide)) (fun h=>by exact absurd h (by decide)) (fun h=>by exact absurd h (by decide)))) (zP _ _)
 by_cases g6:200<(C.G 6).n
 ·exact gt zgB E I hl (early 4 (seven (fun h=>by show((C.G 0).n:Int)<=20;omega) (fun h=>by show((C.G 1).n:Int)<=20;omega) (fun h=>by show((C.G 2).n:Int)<=20;omega) (fun h=>by show((C.G 3).n:Int)<=20;omega) (fun h=>by exact absurd h (by decide)) (fun h=>by exact absurd h (by decide)) (fun h=>by exact absurd h (by decide))) (seven (fun h=>by exact absurd h (by decide)) (fun h=>by exact absurd h (by decide)) (fun h=>by exact absurd h (by decide)) (fun h=>by exact absurd h (by decide)) (fun h=>by exact absurd h (by decide)) (fun h=>by exact absurd h (by decide)) (fun h=>by show(200:Int)<(C.G 6).n;omega))) (zP _ _)
 by_cases g4:9<(C.G 4).n
 ·exact gt zgC E I hl (early 5 (seven (fun h=>by show((C.G 0).n:Int)<=20;omega) (fun h=>by show((C.G 1).n:Int)<=20;omega) (fun h=>by show((C.G 2).n:Int)<=20;omega) (fun h=>by show((C.G 3).n:Int)<=20;omega) (fun h=>by exact absurd h (by decide)) (fun h=>by exact absurd h (by decide)) (fun h=>by show((C.G 6).n:Int)<=200;omega)) (seven (fun h=>by exact absurd h (by decide)) (fun h=>by exact absurd h (by decide)) (fun h=>by exact absurd h (by decide)) (fun h=>by exact absurd h (by decide)) (fun h=>by show(9:Int)<(C.G 4).n;omega) (fun h=>by exact absurd h (by decide)) (fun h=>by exact absurd h (by decide)))) (zP _ _)
 by_cases g5:9<(C.G 5).n
 ·exact gt zgD E I hl (early 6 (seven (fun h=>by show((C.G 0).n:Int)<=20;omega) (fun h=>by show((C.G 1).n:Int)<=20;omega) (fun h=>by show((C.G 2).n:Int)<=20;omega) (fun h=>by show((C.G 3).n:Int)<=20;omega) (fun h=>by show((C.G 4).n:Int)<=9;omega) (fun h=>by exact absurd h (by decide)) (fun h=>by show((C.G 6).n:Int)<=200;omega)) (seven (fun h=>by exact absurd h (by decide)) (fun h=>by exact absurd h (by decide)) (fun h=>by exact absurd h (by decide)) (fun h=>by exact absurd h (by decide)) (fun h=>by exact absurd h (by decide)) (fun h=>by show(9:Int)<(C.G 5).n;omega) (fun h=>by exact absurd h (by decide)))) (zP _ _)
 have I':FsI C w0:=I.toI (fun k hk=>by
   obtain rfl|rfl|rfl|rfl:k=0\/k=1\/k=2\/k=3:=by omega
   all_goals omega) (fun k hk=>by
   obtain rfl|rfl:=hk
   all_goals omega)
 by_cases hp:pst C=0
 ·by_cases h64:(C.G 6).n<=64
  ·exact zbJ I' hl hp hN hw h64 I.kw hf32 hCL
  ·have hb:∀k,k<7->0<=(rL k).1/\(rL k).1<=(C.G k).n/\((C.G k).n:Int)<=(rL k).2:=seven (by show(0:Int)<=0/\(0:Int)<=_/\_<=(20:Int);omega) (by show(0:Int)<=0/\(0:Int)<=_/\_<=(20:Int);omega) (by show(0:Int)<=0/\(0:Int)<=_/\_<=(20:Int);omega) (by show(0:Int)<=0/\(0:Int)<=_/\_<=(20:Int);omega) (by show(0:Int)<=0/\(0:Int)<=_/\_<=(9:Int);omega) (by show(0:Int)<=0/\(0:Int)<=_/\_<=(9:Int);omega) (by show(0:Int)<=65/\(65:Int)<=_/\_<=(200:Int);omega)
   exact gt zgF E I hl hb (zc (GN E I I' hb (V:= .int .i64 0) (fun b=>by rw[zI,zh];rfl) (fun N=>⟨Int.le_refl _,Int.le_refl _⟩) fun w J l=>(xB J l).mono fun e w' h=>⟨by rw[h.1,hp],h.2⟩) (zc (GN E I I' hb (V:= .nilIface) (fun b=>rfl) (fun N=>trivial) fun w J l=>(kN J l).mono fun e w' h=>⟨by rw[h.1,hp];rfl,h.2⟩) (zc (zii E I) (zP _ _))))
 ·have hb:∀k,k<7->0<=(rA k).1/\(rA k).1<=(C.G k).n/\((C.G k).n:Int)<=(rA k).2:=seven (by show(0:Int)<=0/\(0:Int)<=_/\_<=(20:Int);omega) (by show(0:Int)<=0/\(0:Int)<=_/\_<=(20:Int);omega) (by show(0:Int)<=0/\(0:Int)<=_/\_<=(20:Int);omega) (by show(0:Int)<=0/\(0:Int)<=_/\_<=(20:Int);omega) (by show(0:Int)<=0/\(0:Int)<=_/\_<=(9:Int);omega) (by show(0:Int)<=0/\(0:Int)<=_/\_<=(9:Int);omega) (by show(0:Int)<=0/\(0:Int)<=_/\_<=(200:Int);omega)
  have hk:(kE 604).i ρ=pst C:=E.j.std.f rfl []
  have hpb:=zmS C
  have hR:R.ok ρ ⟨kE 604,1,5⟩:=⟨by show(1:Int)<=(kE 604).i ρ;omega,by show(kE 604).i ρ<=(5:Int);omega⟩
  refine gt zgE E I hl hb (zc (GN E I I' hb (V:= .int .i64 (pst C)) (fun b=>by rw[kI,zh];rw[hk]) (fun N=>hR) fun w J l=>xB J l) (zc (GN E I I' hb (V:=qp (pst C)) (fun b=>?_) (fun N=>hR) fun w J l=>kN J l) (zP _ _)))
  show Value.iface _ ((kI 604 1 5).den ρ b)=_
  rw[kI,zh,gI hp,hk]
end Go.Proofs.YtoakpnoajmngmaaGreatDoor.Sx
namespace Go.Proofs.YtoakpnoajmngmaaGreatDoor.Sx
open Go.RowKit
theorem u32_bd' {x:Int} (h:(Lit.int .u32 x).wf=true):0<=x/\x<=4294967295:=by
 simp[Lit.wf,IntKind.min,IntKind.max,IntKind.bits,IntKind.signed]at h
 omega
def zpo (G:Nat->GD) (f:Nat->Nat) (ax bk hd:Nat->List Int) (bo:Nat->List Bool) (lim con law:Int):Frm:=⟨G,nn (G 4).n (G 5).n,fun k j=>(ax k).getD j 0,fun k j=>(bk k).getD j 0,fun k j=>(bo k).getD j false,fun k j=>(hd k).getD j 0,lim,con,law,gath f (G 6).n⟩
theorem Q7 {l:List Int} (h:∀x∈l,B64 x) (j:Nat):B64 (l.getD j 0):=by
 rw[List.getD_eq_getElem?_getD]
 cases hj:l[j]? with
 |none=>unfold B64;simp
 |some x=>exact h x (List.mem_of_getElem? hj)
def GD.sev (g0 g1 g2 g3 g4 g5 g6:GD):Nat->GD:=fun k=>match k with|0=>g0|1=>g1|2=>g2|3=>g3|4=>g4|5=>g5|6=>g6|_=>GD.none1
def wdG (A:Option Addr) (n c:Nat):GD:=⟨A,c,n,[],fun _ _=>0,fun _ _=>false⟩
theorem zmT {A:Option Addr} {n c:Nat} {w:World} (h:n<=9223372036854775807):(wdG A n c).ok w:=⟨h,fun i j hi hj=>absurd hj (Nat.not_lt_zero j),fun _ _=>(by show B64 0;unfold B64;omega)⟩
theorem fccSays_of (g0 d0 g1 d1 s0 s1:GD) (A:Option Addr) (n c:Nat) (f:Nat->Nat) (ax bk hd:Nat->List Int) (bo:Nat->List Bool) (lim con law:Int) (W:World)
  (k0:g0.ks=[true]) (k1:d0.ks=[true]) (k2:g1.ks=[true]) (k3:d1.ks=[true]) (k4:s0.ks=[true,true,false]) (k5:s1.ks=[true,true,false]) (o0:g0.ok W) (o1:d0.ok W) (o2:g1.ok W) (o3:d1.ok W) (o4:s0.ok W) (o5:s1.ok W)
  (bax:∀k,∀x∈ax k,B64 x) (bbk:∀k,∀x∈bk k,B64 x) (bhd:∀k,∀x∈hd k,B64 x) (bl:B64 lim) (bc:B64 con) (bw:B64 law) (hn:n<=9223372036854775807) (hl:ErrLaid W) (hw:kj W A n f):
  Calls Tryz.prog 3 #[qd (zpo (GD.sev g0 d0 g1 d1 s0 s1 (wdG A n c)) (fun k=>if k<n then f k else 0) ax bk hd bo lim con law),qD (zpo (GD.sev g0 d0 g1 d1 s0 s1 (wdG A n c)) (fun k=>if k<n then f k else 0) ax bk hd bo lim con law),.slice A n c] W fun e W'=>e= .returned (.bool true)/\Below W.heap.size W W':=by
 refine Ky (C:=zpo (GD.sev g0 d0 g1 d1 s0 s1 (wdG A n c)) (fun k=>if k<n then f k else 0) ax bk hd bo lim con law) (f:=fun k=>if k<n then f k else 0) ⟨?_,?_,?_,rfl,fun k j=>Q7 (bax k) j,fun k j=>Q7 (bbk k) j,fun k j=>Q7 (bhd k) j,bl,bc,bw⟩ hl rfl ?_ ?_ rfl
 ·intro k
  match k with
  |0=>exact o0
  |1=>exact o1
  |2=>exact o2
  |3=>exact o3
  |4=>exact o4
  |5=>exact o5
  |6=>exact zmT hn
  |k+7=>exact GD.none1_ok W
 ·intro k hk
  obtain rfl|rfl|rfl|rfl:k=0\/k=1\/k=2\/k=3:=by omega
  ·exact k0
  ·exact k1
  ·exact k2
  ·exact k3
 ·intro k hk
  obtain rfl|rfl:=hk
  ·exact k4
  ·exact k5
 ·intro k hk
  have hk:k<n:=hk
  obtain⟨h1,h2⟩:=hw k hk
  obtain⟨b,off,e1,e2,e3⟩:=h2
  exact⟨by simp only[hk,if_true];exact h1,b,off,e1,e2,by simp only[hk,if_true];exact e3⟩
 ·intro k
  split
  ·rename_i hk;exact(hw k hk).1
  ·omega
end Go.Proofs.YtoakpnoajmngmaaGreatDoor.Sx
namespace Go.Proofs.YtoakpnoajmngmaaGreatDoor
open Go.ChangeShapes Go.WideShapes Go.ChangeAt Go.Deep Go.RowKit in
set_option maxRecDepth 100000 in
theorem YT {H:Type} (W:World) (base:Nat) (enc:TypeId × Value->H) (v0 v1 v2:Value) {d0 d1 d2:DataW H} {p0 p1 p2:List MemPlace}
  (k0:Value.okWide Tryz.prog W .any base 29 v0) (k1:Value.okWide Tryz.prog W .any base 41 v1) (k2:Value.okWide Tryz.prog W .any base 42 v2)
  (t0:DataW.Trod enc Tryz.prog W 0 (fun _=>true) true 29 v0 d0 p0) (t1:DataW.Trod enc Tryz.prog W 0 (fun _=>true) true 41 v1 d1 p1) (t2:DataW.Trod enc Tryz.prog W 0 (fun _=>true) true 42 v2 d2 p2) (hl:Sx.ErrLaid W):
  Calls Tryz.prog 3 #[v0,v1,v2] W fun e W'=>e= .returned (.bool true)/\Below W.heap.size W W':=by
 obtain⟨cs0,rfl,h0⟩:=Sx.flatS_open (K:=[.i,.i,.i,.i,.i,.i,.i,.i,.i,.i,.i,.i,.s [true],.s [true],.i,.i,.i,.i,.i,.i,.i,.i,.i,.i,.i,.i,.i,.s [true],.s [true],.i,.i,.i]) (by kernel_rfl) (by kernel_rfl) (by kernel_rfl) k0 t0
 obtain⟨a0_lo,cs1,rfl,b_a0_lo,h1⟩:=h0.int
 obtain⟨a0_hi,cs2,rfl,b_a0_hi,h2⟩:=h1.int
 obtain⟨a0_no,cs3,rfl,b_a0_no,h3⟩:=h2.int
 obtain⟨a0_pu,cs4,rfl,b_a0_pu,h4⟩:=h3.int
 obtain⟨a0_su,cs5,rfl,b_a0_su,h5⟩:=h4.int
 obtain⟨a0_tr,cs6,rfl,b_a0_tr,h6⟩:=h5.int
 obtain⟨a0_ra,cs7,rfl,b_a0_ra,h7⟩:=h6.int
 obtain⟨a0_sl,cs8,rfl,b_a0_sl,h8⟩:=h7.int
 obtain⟨a0_li,cs9,rfl,b_a0_li,h9⟩:=h8.int
 obtain⟨a0_co,cs10,rfl,b_a0_co,h10⟩:=h9.int
 obtain⟨a0_wa,cs11,rfl,b_a0_wa,h11⟩:=h10.int
 obtain⟨a0_tu,cs12,rfl,b_a0_tu,h12⟩:=h11.int
 obtain⟨g0,cs13,rfl,o_g0,k_g0,h13⟩:=h12.slice
 obtain⟨e0,cs14,rfl,o_e0,k_e0,h14⟩:=h13.slice
 obtain⟨a0_bu,cs15,rfl,b_a0_bu,h15⟩:=h14.int
 obtain⟨a1_lo,cs16,rfl,b_a1_lo,h16⟩:=h15.int
 obtain⟨a1_hi,cs17,rfl,b_a1_hi,h17⟩:=h16.int
 obtain⟨a1_no,cs18,rfl,b_a1_no,h18⟩:=h17.int
 obtain⟨a1_pu,cs19,rfl,b_a1_pu,h19⟩:=h18.int
 obtain⟨a1_su,cs20,rfl,b_a1_su,h20⟩:=h19.int
 obtain⟨a1_tr,cs21,rfl,b_a1_tr,h21⟩:=h20.int
 obtain⟨a1_ra,cs22,rfl,b_a1_ra,h22⟩:=h21.int
 obtain⟨a1_sl,cs23,rfl,b_a1_sl,h23⟩:=h22.int
 obtain⟨a1_li,cs24,rfl,b_a1_li,h24⟩:=h23.int
 obtain⟨a1_co,cs25,rfl,b_a1_co,h25⟩:=h24.int
 obtain⟨a1_wa,cs26,rfl,b_a1_wa,h26⟩:=h25.int
 obtain⟨a1_tu,cs27,rfl,b_a1_tu,h27⟩:=h26.int
 obtain⟨g1,cs28,rfl,o_g1,k_g1,h28⟩:=h27.slice
 obtain⟨e1,cs29,rfl,o_e1,k_e1,h29⟩:=h28.slice
 obtain⟨a1_bu,cs30,rfl,b_a1_bu,h30⟩:=h29.int
 obtain⟨lim,cs31,rfl,b_lim,h31⟩:=h30.int
 obtain⟨con,cs32,rfl,b_con,h32⟩:=h31.int
 obtain rfl:=h32.nil
 obtain⟨cs33,rfl,h33⟩:=Sx.flatS_open (K:=[.i,.i,.i,.b,.b,.b,.i,.i,.i,.i,.b,.b,.b,.i,.i,.i,.i,.b,.b,.b,.i,.s [true,true,false],.s [true,true,false],.i,.i,.i,.i,.i,.i,.i]) (by kernel_rfl) (by kernel_rfl) (by kernel_rfl) k1 t1
 obtain⟨b0_0,cs34,rfl,b_b0_0,h34⟩:=h33.int
 obtain⟨b0_1,cs35,rfl,b_b0_1,h35⟩:=h34.int
 obtain⟨b0_2,cs36,rfl,b_b0_2,h36⟩:=h35.int
 obtain⟨q0_0,cs37,rfl,h37⟩:=h36.bool
 obtain⟨q0_1,cs38,rfl,h38⟩:=h37.bool
 obtain⟨q0_2,cs39,rfl,h39⟩:=h38.bool
 obtain⟨b0_6,cs40,rfl,b_b0_6,h40⟩:=h39.int
 obtain⟨b1_0,cs41,rfl,b_b1_0,h41⟩:=h40.int
 obtain⟨b1_1,cs42,rfl,b_b1_1,h42⟩:=h41.int
 obtain⟨b1_2,cs43,rfl,b_b1_2,h43⟩:=h42.int
 obtain⟨q1_0,cs44,rfl,h44⟩:=h43.bool
 obtain⟨q1_1,cs45,rfl,h45⟩:=h44.bool
 obtain⟨q1_2,cs46,rfl,h46⟩:=h45.bool
 obtain⟨b1_6,cs47,rfl,b_b1_6,h47⟩:=h46.int
 obtain⟨b2_0,cs48,rfl,b_b2_0,h48⟩:=h47.int
 obtain⟨b2_1,cs49,rfl,b_b2_1,h49⟩:=h48.int
 obtain⟨b2_2,cs50,rfl,b_b2_2,h50⟩:=h49.int
 obtain⟨q2_0,cs51,rfl,h51⟩:=h50.bool
 obtain⟨q2_1,cs52,rfl,h52⟩:=h51.bool
 obtain⟨q2_2,cs53,rfl,h53⟩:=h52.bool
 obtain⟨b2_6,cs54,rfl,b_b2_6,h54⟩:=h53.int
 obtain⟨s0,cs55,rfl,o_s0,k_s0,h55⟩:=h54.slice
 obtain⟨s1,cs56,rfl,o_s1,k_s1,h56⟩:=h55.slice
 obtain⟨m0_0,cs57,rfl,b_m0_0,h57⟩:=h56.int
 obtain⟨m0_1,cs58,rfl,b_m0_1,h58⟩:=h57.int
 obtain⟨m0_2,cs59,rfl,b_m0_2,h59⟩:=h58.int
 obtain⟨m1_0,cs60,rfl,b_m1_0,h60⟩:=h59.int
 obtain⟨m1_1,cs61,rfl,b_m1_1,h61⟩:=h60.int
 obtain⟨m1_2,cs62,rfl,b_m1_2,h62⟩:=h61.int
 obtain⟨law,cs63,rfl,b_law,h63⟩:=h62.int
 obtain rfl:=h63.nil
 obtain⟨A,n,c,rfl,hnc,hcm,hs⟩:=KX 1 (fun cs=>∃a:Int,cs=[.int .u32 a]/\0<=a/\a<=4294967295) Tryz.underlying42 (by kernel_rfl) (by omega)
  (fun fu cs x h=>by
   obtain⟨a,ha,_,wa⟩:=DataW.trod_int Tryz.underlying101 h
   exact⟨a,ha,Sx.u32_bd' wa⟩) k2 t2
 unfold maxLen at hcm
 have z0:B64 0:=by unfold B64;omega
 have key:∀(f:Nat->Nat),kj W A n f->Calls Tryz.prog 3 #[_,_,.slice A n c] W fun e W'=>e= .returned (.bool true)/\Below W.heap.size W W':=fun f hw=>
  Sx.fccSays_of g0 e0 g1 e1 s0 s1 A n c f (fun k=>if k=0 then[a0_lo,a0_hi,a0_no,a0_pu,a0_su,a0_tr,a0_ra,a0_sl,a0_li,a0_co,a0_wa,a0_tu,a0_bu]else[a1_lo,a1_hi,a1_no,a1_pu,a1_su,a1_tr,a1_ra,a1_sl,a1_li,a1_co,a1_wa,a1_tu,a1_bu]) (fun k=>if k=0 then[b0_0,b0_1,b0_2,0,0,0,b0_6]else if k=1 then[b1_0,b1_1,b1_2,0,0,0,b1_6]else[b2_0,b2_1,b2_2,0,0,0,b2_6]) (fun k=>if k=0 then[m0_0,m0_1,m0_2]else[m1_0,m1_1,m1_2]) (fun k=>if k=0 then[q0_0,q0_1,q0_2]else if k=1 then[q1_0,q1_1,q1_2]else[q2_0,q2_1,q2_2]) lim con law W k_g0 k_e0 k_g1 k_e1 k_s0 k_s1 o_g0 o_e0 o_g1 o_e1 o_s0 o_s1 (fun k x hx=>by
   split at hx
   all_goals simp only[List.mem_cons,List.not_mem_nil,or_false]at hx
   all_goals(rcases hx with rfl|rfl|rfl|rfl|rfl|rfl|rfl|rfl|rfl|rfl|rfl|rfl|rfl<;>assumption)) (fun k x hx=>by
   split at hx
   ·simp only[List.mem_cons,List.not_mem_nil,or_false]at hx
    rcases hx with rfl|rfl|rfl|rfl|rfl|rfl|rfl<;>assumption
   ·split at hx
    all_goals simp only[List.mem_cons,List.not_mem_nil,or_false]at hx
    all_goals(rcases hx with rfl|rfl|rfl|rfl|rfl|rfl|rfl<;>assumption)) (fun k x hx=>by
   split at hx
   all_goals simp only[List.mem_cons,List.not_mem_nil,or_false]at hx
   all_goals(rcases hx with rfl|rfl|rfl<;>assumption)) b_lim b_con b_law (by omega) hl hw
 rcases hs with rfl|⟨b,off,rfl,hb,hcell⟩
 ·exact key (fun _=>0) (fun k hk=>absurd hk (Nat.not_lt_zero k))
 ·have hf:∀i,∃f:Nat,i<n->f<4294967296/\W.cell? ⟨b,off+i,none⟩=some (.int .u32 f):=by
   intro i
   by_cases hi:i<n
   ·obtain⟨cs,_,⟨a,rfl,a1,a2⟩,hc⟩:=hcell i hi
    refine⟨a.toNat,fun _=>⟨by omega,?_⟩⟩
    have h:=hc 0 (by omega)
    rw[Nat.mul_one,Nat.add_zero]at h
    rw[h,Int.toNat_of_nonneg a1]
    rfl
   ·exact⟨0,fun h=>absurd h hi⟩
  obtain⟨f,hf⟩:=Classical.axiomOfChoice hf
  exact key f (fun k hk=>⟨(hf k hk).1,b,off,rfl,hb,(hf k hk).2⟩)
end Go.Proofs.YtoakpnoajmngmaaGreatDoor
