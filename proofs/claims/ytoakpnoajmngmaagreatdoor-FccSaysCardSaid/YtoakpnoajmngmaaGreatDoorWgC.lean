import Derived.Test.YtoakpnoajmngmaaGreatDoorWgMap
import Derived.Test.YtoakpnoajmngmaaGreatDoorWgB
import Derived.Sort.OwnSorted
import Derived.Laws.MakeOwn
import Derived.Carry
set_option linter.unusedVariables false
set_option linter.unusedSimpArgs false
namespace Go.Proofs.YtoakpnoajmngmaaGreatDoor
open Go.Shelf Go.RowKit Go.Lib Go.Sort Go.Maps
theorem KC {w w1:World} {b n:Nat} {D:DataW Value} (h:w.ownsMap Tryz.prog 89 rdR b n D) (hb:Below w.heap.size w w1):w1.ownsMap Tryz.prog 89 rdR b n D:=by
 have hl:=h.lt
 obtain⟨es,clock,h1,h2⟩:=h
 exact⟨es,clock,(hb.block b hl).trans h1,h2⟩
theorem ZI {w:World} {g n:Nat} {os:Array Obj} (d:Array Rf):w.grownBy (sortWorldK vX 4 w g 0 n d os) (some g):=by
 refine⟨rfl,rfl,rfl,by simp[sortWorldK,putRowK],fun k hk hne=>?_⟩
 show(grow (putRow id (Sort.ahead w n) g 0 (Go.Sort.flatK vX 4 d)) os).heap[k]? =_
 rw[heap_grow_old _ _ (by simpa using hk)]
 have:g≠k:=fun e=>hne (by rw[e])
 simp[putRow,mapBlock,Sort.ahead,Array.getElem?_modify,this]
theorem KD {w:World} {base g cap:Nat} {M:List Rd} {t:TypeId} (h:w.ownsRow base t 4 (.slice (some ⟨g,0,none⟩) M.length cap) M.length (rdL M)) (hM:∀q∈M,q.Fine):HoldsK vX 4 w g 0 (ZJ M hM).toArray:=by
 intro j hj
 rw[size_flatK]at hj
 have hl:(ZJ M hM).toArray.size=M.length:=by simp[ZJ]
 have hi:j/4<M.length:=by rw[hl]at hj;omega
 have hr:j%4<4:=Nat.mod_lt _ (by omega)
 rw[get_flatK _ _ _ _ hj,Nat.zero_add]
 refine⟨?_,h.frozenAt j⟩
 have hq:M[j/4]? =some M[j/4]:=List.getElem?_eq_getElem hi
 obtain⟨c0,c1,c2,c3⟩:=za3 h hq
 have e:(ZJ M hM).toArray[j/4]! =⟨M[j/4],hM _ (List.getElem_mem hi)⟩:=by
  rw[getElem!_pos _ _ (by rw[hl];exact hi)]
  simp[ZJ]
 rw[e]
 have hj4:j=j/4*4+j%4:=by omega
 generalize j%4=c at*
 match c,hr with
 |0,_=>exact(congrArg (fun t=>w.cell? ⟨g,t,none⟩) (show j=j/4*4 by omega)).trans (c0.trans rfl)
 |1,_=>exact(congrArg (fun t=>w.cell? ⟨g,t,none⟩) (show j=j/4*4+1 by omega)).trans (c1.trans rfl)
 |2,_=>exact(congrArg (fun t=>w.cell? ⟨g,t,none⟩) (show j=j/4*4+2 by omega)).trans (c2.trans rfl)
 |3,_=>exact(congrArg (fun t=>w.cell? ⟨g,t,none⟩) (show j=j/4*4+3 by omega)).trans (c3.trans rfl)
theorem Y0 {w:World} {base g cap n:Nat} {M L:List Rd} {t:TypeId} {os:Array Obj} (h:w.ownsRow base t 4 (.slice (some ⟨g,0,none⟩) M.length cap) M.length (rdL M)) (hM:∀q∈M,q.Fine) {d':Array Rf} (hs:d'.size=M.length) (hL:d'.toList.map (·.1)=L):xM (sortWorldK vX 4 w g 0 n d' os) (.slice (some ⟨g,0,none⟩) M.length cap) L:=by
 have hH:=KD h hM
 have hg:g<w.heap.size:=(h.lt g rfl).2
 have hl:L.length=M.length:=by rw[<-hL];simpa using hs
 have h2:HoldsK vX 4 (sortWorldK vX 4 w g 0 n d' os) g 0 d':=SWK.holds ⟨n,os,rfl⟩ hg hH (by rw[hs];simp[ZJ])
 refine⟨_,cap,by rw[hl],fun k r hk=>⟨g,0,rfl,Nat.lt_of_lt_of_le hg (ZI d').size,?_⟩⟩
 have hk':k<d'.size:=by rw[hs,<-hl];exact(List.getElem?_eq_some_iff.1 hk).1
 have e:(d'[k]!).1=r:=by
  rw[getElem!_pos d' k hk']
  rw[<-hL,List.getElem?_map,Array.getElem?_toList,Array.getElem?_eq_getElem hk']at hk
  simpa using hk
 have hc:=HoldsK.cells h2 (fun _=>rfl) hk'
 have e0:=hc 0 _ rfl
 have e1:=hc 1 _ rfl
 have e2:=hc 2 _ rfl
 have e3:=hc 3 _ rfl
 rw[ZH]at e0 e1 e2 e3
 rw[e]at e0 e1 e2 e3
 exact⟨e0,e1,e2,e3⟩
theorem VY {w:World} {base g cap n m:Nat} {xs:List Value} {t:TypeId} {d:Array Rf} {os:Array Obj} (h:w.ownsRow base t 4 (.slice (some ⟨g,0,none⟩) m cap) m xs):∃arr:Array Value,(sortWorldK vX 4 w g 0 n d os).heap[g]? =some (.cells arr t (0,0)):=by
 rcases h.2 with⟨h0,_⟩|⟨g',cap',cur,h0,h1,h2,h3⟩
 ·cases h0
 ·cases h0
  have hg:=(Array.getElem?_eq_some_iff.1 h2).1
  show ∃arr:Array Value,(grow (putRow id (Sort.ahead w n) g 0 (Go.Sort.flatK vX 4 d)) os).heap[g]? =_
  rw[heap_grow_old _ _ (by simpa using hg)]
  simp only[putRow,mapBlock,Sort.ahead,Array.getElem?_modify,if_true]
  rw[h2]
  exact⟨_,rfl⟩
set_option maxRecDepth 100000 in
set_option maxHeartbeats 1000000 in
theorem VZ (A:Option Addr) (c n:Nat) (w:World) (hn:64<n) (hn2:n<=9223372036854775807):
  Calls Tryz.prog 35 #[.slice A n c] w fun e w'=>e= .returned (.tuple #[.slice none 0 0,.int .i64 0,qp 2])/\Below w.heap.size w w':=by
 go_enter Tryz.func35,Tryz.ntmps35
 go_wp2_with fail
 refine bodyPost_ret (v:= .tuple #[.slice none 0 0,.int .i64 0,qp 2]) ?_ rfl ⟨rfl,gW⟩
 simp[results,Tryz.results35,go_sem,qp]
theorem zew (x:Nat) (w:World) (hx:x<4294967296) (ho:mY x=true):Calls Tryz.prog 71 #[.int .u32 x] w fun e w'=>e= .returned (.tuple #[.agg #[.int .i64 (Y8 x).l,.int .i64 (Y8 x).s,.int .i64 (Y8 x).st,.int .i64 (Y8 x).d],.nilIface])/\Below w.heap.size w w':=
 Jf x _ _ _ _ w hx (fun _=>ho) (fun _=>rfl) (fun _=>rfl) (fun _=>rfl) (fun _=>rfl)
theorem za4 (x:Nat) (w:World) (hx:x<4294967296) (ho:mY x=false):Calls Tryz.prog 71 #[.int .u32 x] w fun e w'=>e= .returned (.tuple #[.agg #[.int .i64 0,.int .i64 0,.int .i64 0,.int .i64 0],.iface 44 (.int .i64 3)])/\Below w.heap.size w w':=
 Zb x w hx (fun _=>ho)
set_option maxRecDepth 100000 in
set_option maxHeartbeats 2000000 in
theorem Y1 (A:Option Addr) (c n:Nat) (f:Nat->Nat) (w:World) (hn:n<=64) (h:kj w A n f):
  Calls Tryz.prog 35 #[.slice A n c] w fun e w'=>(∃v,e= .returned (.tuple #[v,.int .i64 (vK f n),.nilIface])/\xM w' v (gath f n)/\∃g cap,v= .slice (some ⟨g,0,none⟩) (gath f n).length cap/\w.heap.size<=g/\∃arr:Array Value,w'.heap[g]? =some (.cells arr 136 (0,0)))/\Below w.heap.size w w':=by
 have HW:=Lib.hid h
 have HS:=Lib.hid (k7 f)
 have HFi:=Lib.hid (mQ f)
 have HLn:=Lib.hid (wA f)
 have HBn:=Lib.hid (mR f)
 clear h
 obtain⟨i0,hif,hza,hzb,hzc⟩:=info_parts zfK
 have hmm:=@run_makeMap Tryz.prog
 go_enter Tryz.func35,Tryz.ntmps35
 go_wp2_with fail
 go_loopw [5,21] (fun bd i wr=>∃(k:Nat) (D:DataW Value),k<=n/\i= .int .i64 k/\bd= .int .i64 (vK f k)/\wr.ownsMap Tryz.prog 89 rdR w.heap.size k D/\Hid (Jb D (gath f k))/\Below w.heap.size w wr) (fun _ i _=>n-(intOf i).toNat)
 case atStart=>exact⟨0,.map [],Nat.zero_le _,rfl,rfl,World.ownsMap_made _ _ _ _,Jb.start,gW⟩
 case round=>
  obtain⟨k,D,hkn,rfl,rfl,hown,hmi,hbw⟩:=hrel
  have hsz:=hbw.size
  have hwb:=hown.lt
  by_cases hlt:k<n
  ·obtain⟨hx,b,off,rfl,hbl,c0⟩:=HW.out k hlt
   have e0:=(hbw.cell (p:=⟨b,off+k,none⟩) hbl).trans c0
   clear c0
   have hbl2:b<wr.heap.size:=by omega
   have hGB:=HBn.out k
   cases ho:mY (f k)
   ·have G1:Hid (gath f (k+1)=gath f k):=if_neg (by rw[ho];decide)
    have G2:Hid (vK f (k+1)=vK f k+1):=if_neg (by rw[ho];decide)
    have HU:=Lib.hid fun w=>za4 (f k) w hx ho
    generalize vK f k=bd at*
    generalize gath f k=L at*
    generalize f k=x at*
    have hwbd:IntKind.wrap .i64 ((bd:Int)+1)=(bd:Int)+1:=IntWalk.i64_in _ ⟨by omega,by omega⟩
    go_wp2_with (first|(go_at_call 71;((with_reducible refine(HU.out _).mono ?_);rintro e w5 ⟨rfl,hb5⟩;have hz5:=hb5.size))|fail)
    go_roundw
    case rel=>exact⟨k+1,D,by omega,by go_num,by rw[G2.out];go_num,((KC hown hb5).alloc _).mono (Nat.le_succ _),by rw[G1.out];exact hmi.out,gW⟩
    case measure=>simp[intOf];omega
   ·have G1:Hid (gath f (k+1)=yf (Y8 (f k)) (gath f k)):=if_pos ho
    have G2:Hid (vK f (k+1)=vK f k):=if_pos ho
    have HU:=Lib.hid fun w=>zew (f k) w hx ho
    have hRf:=Lib.hid (KP (f k))
    have hLf:=Lib.hid (HFi.out k)
    have hLs:=Lib.hid (HS.out k)
    generalize vK f k=bd at*
    generalize gath f k=L at*
    generalize f k=x at*
    generalize Y8 x=r at*
    have hkey:=GU hRf.out
    go_wp2_with (first|(go_at_call 71;((with_reducible refine(HU.out _).mono ?_);rintro e w5 ⟨rfl,hb5⟩;have hz5:=hb5.size))|(at_mapUpdate;go_loud (refine wpList_mapUpdate_own _ rfl (.tmp 34) (.tmp 39) (.tmp 40) 159 rfl 89 136 za5 Tryz.underlying159 rdR w.heap.size k D rfl ((KC hown hb5).alloc _) (by unfold maxLen;omega) (.agg #[.int .i64 r.l,.int .i64 r.s]) (.agg #[.int .i64 r.l,.int .i64 r.s,.int .i64 r.st,.int .i64 r.d]) (klR r) rfl rfl hkey (.held r.val) [] rfl ?_);intro w8 own8 grow8)|fail)
    go_roundw
    case rel=>exact⟨k+1,D.put (klR r) (.held r.val),by omega,by go_num,by rw[G2.out],own8,by rw[G1.out];exact hmi.out.put hLs.out hLf.out hRf.out,Below.grown (gW) grow8 (by simp;omega) (fun q hq=>by cases hq;omega)⟩
    case measure=>simp[intOf];omega
  ·have hkn:k=n:=by omega
   subst hkn
   have hsd:=hown.size_le
   have hlen:=fun ty=>hown.len Tryz.underlying159 ty
   have hLf:=Lib.hid (HFi.out k)
   have hLs:=Lib.hid (HS.out k)
   obtain⟨wm,hmk,hrowm,hgm⟩:=run_make_own (P:=Tryz.prog) wr (w.heap.size+1) 82 136 i0 (.agg #[.int .i64 0,.int .i64 0,.int .i64 0,.int .i64 0]) 4 Tryz.underlying82 hif hza hzb .i64 .i64 (Maps.size D) (by rw[hzc];omega) (by unfold maxLen;omega) (by omega)
   have hownm:=hown.kept hgm (by simp)
   have HBm:Below w.heap.size w wm:=Below.grown hbw hgm hsz (fun q h=>nomatch h)
   have hsm:=hgm.size
   go_wp2_with (first|(at_range;go_loud (refine wpList_range_own _ rfl (.tmp 45) 159 rfl 89 136 za5 Tryz.underlying159 rdR w.heap.size k D rfl hownm ?_);intro w0 hrg0 hg0 hs0)|fail)
   clear hlen hmk
   (try go_frame)
   obtain⟨rI,hrI⟩:∃r,wm.heap.size=r:=⟨_,rfl⟩
   rw[hrI]at hrg0 ⊢
   obtain⟨wo,rfl⟩:∃x:World,x=wr:=⟨_,rfl⟩
   go_loopw [11] (fun v wq=>∃(left:Lit->Bool) (cnt:Nat) (M:List Rd),wq.ranges Tryz.prog 89 rdR w.heap.size rI k D left cnt/\Hid (zin (gath f k) left M)/\wq.ownsRow (w.heap.size+1) 136 4 v M.length (rdL M)/\v≠ .slice none 0 0/\M.length+cnt<=64/\Below w.heap.size w wq) (fun _ wq=>wq.rangeLeft w.heap.size rI)
   case atStart=>exact⟨_,_,[],hrg0,zin.start hmi.out,hrowm.kept hg0 (.inr (by simp[Value.ownBlock])),by simp,by show 0+Maps.size D<=64;omega,Below.grown HBm hg0 (by omega) (fun q h=>nomatch h)⟩
   case round=>
    obtain⟨left,cnt,M,hrg,hRg,hown2,hnn,hcnt,hbq⟩:=hrel
    have hni:=row_ne_iter hown2 hrg
    have hnl:=row_ne_low hown2 (Nat.lt_succ_self w.heap.size)
    have hsq:=hbq.size
    go_wp2_with (first|(at_next;go_loud (refine wpList_next_ranges _ rfl (.tmp 46) rfl 89 za5 rdR id id (fun key kl h=>⟨key,rfl⟩) (fun v y h=>⟨v,rfl⟩) w.heap.size rI k D left cnt rfl hrg ?_ ?_))|fail)
    ·intro hc0 hl0
     have hM:∀q,q∈M↔q∈gath f k:=fun q=>by rw[hRg.out.1 q,hl0];simp
     have hMf:∀q∈M,q.Fine:=fun q h=>hLf.out q ((hM q).1 h)
     rcases GT hown2 with⟨h0,_⟩|⟨g,cap,rfl,hcap,hgb,hgw⟩
     ·exact absurd h0 hnn
     ·have hH:=KD hown2 hMf
      have hd:(ZJ M hMf).toArray.size=M.length:=by simp[ZJ]
      have hc:=Lib.hid (We g cap (ZJ M hMf).toArray wr hH hgw (by rw[hd];omega))
      rw[hd]at hc
      clear hH
      go_wp2_with (first|(go_at_call 72;go_loud ((with_reducible refine hc.out.mono ?_);rintro e w7 ⟨rfl,d',nn,os,hp,hso,rfl⟩))|fail)
      have hsd':d'.size=M.length:=by rw[hp.1,hd]
      have hsrt:=za8 hLs.out hM hRg.out.2 hMf d' (by rw[hd];exact hp) (by rw[hd];exact hso)
      have hlenM:(gath f k).length=M.length:=by rw[<-hsrt,List.length_map,Array.length_toList,hsd']
      refine bodyPost_ret (v:= .tuple #[.slice (some ⟨g,0,none⟩) M.length cap,.int .i64 (vK f k),.nilIface]) ?_ rfl ⟨⟨_,rfl,Y0 hown2 hMf hsd' hsrt,g,cap,by rw[hlenM],by omega,VY hown2⟩,Below.grown hbq (ZI d') hsq (fun q h=>by cases h;omega)⟩
      simp[results,Tryz.results35,go_sem]
    ·intro x c' kl y1 y2 w1 cnt1 hkx hlx hRc hat hrg1 hlt hg1 hs1 hen
     obtain⟨rfl,rfl⟩:=Prod.mk.inj (Option.some.inj (show some ((DataW.held c',[]):DataW Value × List MemPlace)=some (y1,y2)from hRc))
     obtain⟨q,hqL,hq,hRg1⟩:=hRg.out.step hmi.out hLs.out hLf.out hlx hat
     subst hq
     have hRg2:=Lib.hid hRg1
     have hen':(Instr.entry (.pointer (some ⟨rI,0,none⟩))).run Tryz.prog w1= .ok (.tuple #[x,.agg #[.int .i64 q.l,.int .i64 q.s,.int .i64 q.st,.int .i64 q.d]]) w1:=hen
     have hown3:=hown2.kept hg1 (.inr hni.symm)
     have hb1:Below w.heap.size w w1:=Below.grown hbq hg1 hsq (fun q h=>by cases h;omega)
     clear hRg1 hen hat hkx
     go_wp2_with (first|(at_builtin;go_loud (refine wpList_append_own _ rfl (.tmp 51) (.tmp 53) 82 rfl (w.heap.size+1) 136 i0 (.agg #[.int .i64 0,.int .i64 0,.int .i64 0,.int .i64 0]) 4 32 Tryz.underlying82 hif hza hzb hzc rfl (by decide) u11 M.length (rdL M) rfl ((hown3.alloc _).alloc _) ⟨_,0,none⟩ 1 1 [.int .i64 q.l,.int .i64 q.s,.int .i64 q.st,.int .i64 q.d] rfl rfl ?c1 ?c2 ?c3 ?c4 ?c5 ?_))|fail)
     case c1=>
      intro jj u hu
      match jj,hu with
      |0,hu=>simp at hu;subst hu;simp[Addr.add];exact j4 (by simp[hs1]) rfl
      |1,hu=>simp at hu;subst hu;simp[Addr.add];exact j4 (by simp[hs1]) rfl
      |2,hu=>simp at hu;subst hu;simp[Addr.add];exact j4 (by simp[hs1]) rfl
      |3,hu=>simp at hu;subst hu;simp[Addr.add];exact j4 (by simp[hs1]) rfl
     case c2=>intro u hu;simp at hu;rcases hu with rfl|rfl|rfl|rfl<;>rfl
     case c3=>unfold maxLen;omega
     case c4=>omega
     case c5=>simp;omega
     intro v' w9 own9 grow9 hv9
     have hrg9:=((hrg1.alloc _).alloc _).kept grow9 hnl hni
     have hB9:Below w.heap.size w w9:=Below.grown (gW) grow9 (by simp;omega) (fun q h=>by have:=(hown2.lt q h).1;omega)
     clear grow9 hown3 hen'
     go_wp2
     go_roundw
     case rel=>exact⟨_,cnt1,M++[q],hrg9,hRg2.out,by rw[List.length_append,zeI];exact own9,by first|exact hv9|exact fun h=>hnn (hv9.1 h).1,by rw[List.length_append];show M.length+1+cnt1<=64;omega,hB9⟩
     case measure=>rw[hrg9.left_eq,hrg.left_eq];omega
end Go.Proofs.YtoakpnoajmngmaaGreatDoor
