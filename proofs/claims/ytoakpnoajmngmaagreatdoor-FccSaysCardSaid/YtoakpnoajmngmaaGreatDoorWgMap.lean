import Derived.Test.YtoakpnoajmngmaaGreatDoorWgSort
import Derived.Maps.RangeWalk
import Derived.WideKeyPair
import Derived.DeepKeys4
import Derived.MapViews
import Derived.WideKeyArgs
set_option linter.unusedVariables false
set_option linter.unusedSimpArgs false
namespace Go.Proofs.YtoakpnoajmngmaaGreatDoor
open Go.Shelf Go.RowKit Go.Lib Go.Sort Go.Maps Go.WideMaps
theorem zpv:ArrKey Tryz.prog 89 3 2:=⟨Tryz.underlying89,by kernel_rfl,by kernel_rfl,by kernel_rfl⟩
theorem za5:Keyed Tryz.prog 89:=Keyed.of_law (deep_law_laid (by kernel_rfl) (m:=2) (by omega) (of_decide_eq_true (by kernel_rfl)) (by kernel_rfl) (by rw[Tryz.underlying89]))
theorem zim:∃m,Tryz.prog.types.size=m+1:=by
 have h:0<Tryz.prog.types.size:=of_decide_eq_true (by kernel_rfl)
 exact⟨Tryz.prog.types.size-1,by omega⟩
def klR (r:Rd):Lit:= .string (keyBytes [.int .i64 r.l,.int .i64 r.s])
theorem zfL {a:Int} (h:0<=a/\a<=255):(Lit.int .i64 a).wf=true:=by
 have h1:=h.1
 have h2:=h.2
 simp[Lit.wf,IntKind.min,IntKind.max,IntKind.bits,IntKind.signed]
 omega
theorem GU {r:Rd} (h:r.Fine):keyOf Tryz.prog 89 (.agg #[.int .i64 r.l,.int .i64 r.s])=some (klR r):=by
 obtain⟨a1,a2,a3,a4,_⟩:=h
 exact keyOf_pair zpv Tryz.underlying3 zim (zfL ⟨a1,a2⟩) (zfL ⟨a3,by omega⟩)
theorem zfM {a b:Rd} (ha:a.Fine) (hb:b.Fine) (h:klR a=klR b):a.same b:=by
 have:=za5.inj (GU ha) (h▸GU hb)
 simp at this
 exact this
theorem za6 {a b:Rd} (h:a.same b):klR a=klR b:=by
 unfold klR
 rw[h.1,h.2]
theorem za7 {r:Rd} (h:r.Fine):WideAt.IsKeyLit (klR r):=za5.key (GU h)
def rdR (v:Value):Option (DataW Value × List MemPlace):=some (.held v,[])
def Jb (D:DataW Value) (L:List Rd):Prop:=IsMap D/\(∀l,has D l=true->∃r∈L,klR r=l)/\∀r∈L,has D (klR r)=true/\∀z,D.atKey (klR r) z= .held r.val
theorem Jb.start:Jb (.map []) []:=⟨isMap_empty,(fun l h=>by cases h),(fun r h=>by cases h)⟩
theorem Jb.put {D:DataW Value} {L:List Rd} {r:Rd} (h:Jb D L) (hs:L.Pairwise Rd.lt) (hL:∀q∈L,q.Fine) (hr:r.Fine):Jb (D.put (klR r) (.held r.val)) (yf r L):=by
 obtain⟨h1,h2,h3⟩:=h
 refine⟨h1.put _ _,fun l hl=>?_,fun q hq=>?_⟩
 ·by_cases e:l=klR r
  ·exact⟨r,(xa hs).2 (.inl rfl),e.symm⟩
  ·rw[has_put_other e]at hl
   obtain⟨q,hq,e'⟩:=h2 l hl
   exact⟨q,(xa hs).2 (.inr ⟨hq,fun hsame=>e (e'.symm.trans (za6 hsame))⟩),e'⟩
 ·rcases(xa hs).1 hq with rfl|⟨hq,hn⟩
  ·exact⟨has_put_same h1 (za7 hr) _,fun z=>atKey_put_same h1 (za7 hr) _ _⟩
  ·have hne:klR q≠klR r:=fun e=>hn (zfM (hL q hq) hr e)
   exact⟨by rw[has_put_other hne];exact(h3 q hq).1,fun z=>by rw[atKey_put_other hne];exact(h3 q hq).2 z⟩
def zin (L:List Rd) (left:Lit->Bool) (M:List Rd):Prop:=(∀q,q∈M↔q∈L/\left (klR q)=false)/\M.Pairwise (fun a b=>¬a.same b)
theorem zin.start {D:DataW Value} {L:List Rd} (h:Jb D L):zin L (has D) []:=
 ⟨fun q=>⟨fun hq=>(by cases hq),fun⟨hq,hn⟩=>by rw[(h.2.2 q hq).1]at hn;cases hn⟩,List.Pairwise.nil⟩
theorem zin.step {D:DataW Value} {L M:List Rd} {left:Lit->Bool} (h:zin L left M) (hm:Jb D L) (hs:L.Pairwise Rd.lt) (hL:∀q∈L,q.Fine) {kl:Lit} {c:Value} (hl:left kl=true) (hat:∀zd,D.atKey kl zd= .held c):
  ∃r∈L,c=r.val/\zin L (fun z=>left z&& !z.sameKey kl) (M++[r]):=by
 obtain⟨r,hr,e⟩:=hm.2.1 kl (has_true_of_atKey hat)
 subst e
 have hc:c=r.val:=by
  have h1:=(hm.2.2 r hr).2 .nil
  rw[hat]at h1
  cases h1
  rfl
 refine⟨r,hr,hc,fun q=>?_,?_⟩
 ·rw[List.mem_append,List.mem_singleton]
  constructor
  ·rintro(hq|rfl)
   ·have:=(h.1 q).1 hq
    exact⟨this.1,by show(left (klR q)&&_)=false;rw[this.2];rfl⟩
   ·exact⟨hr,by show(left (klR q)&& !(klR q).sameKey (klR q))=false;rw[WideAt.sameKey_self (za7 (hL q hr))];simp⟩
  ·rintro⟨hq,hn⟩
   cases hlq:left (klR q)
   ·exact .inl ((h.1 q).2 ⟨hq,hlq⟩)
   ·right
    replace hn:(left (klR q)&& !(klR q).sameKey (klR r))=false:=hn
    by_cases e:klR q=klR r
    ·exact Y7 hs hq hr (zfM (hL q hq) (hL r hr) e)
    ·rw[hlq,sameKey_ne e]at hn
     cases hn
 ·refine List.pairwise_append.2 ⟨h.2,List.pairwise_singleton _ _,fun a ha b hb=>?_⟩
  rw[List.mem_singleton.1 hb]
  intro hsame
  have h1:=((h.1 a).1 ha).2
  rw[za6 hsame,hl]at h1
  cases h1
def ZJ (M:List Rd) (h:∀q∈M,q.Fine):List Rf:=M.pmap (fun r h=>⟨r,h⟩) h
theorem zex (M:List Rd) (h:∀q∈M,q.Fine):(ZJ M h).map (·.1)=M:=by
 unfold ZJ
 rw[List.map_pmap]
 simp
theorem za8 {L M:List Rd} (hs:L.Pairwise Rd.lt) (hM:∀q,q∈M↔q∈L) (hp:M.Pairwise (fun a b=>¬a.same b)) (h:∀q∈M,q.Fine) (d':Array Rf) (h1:PermIn 0 (ZJ M h).toArray.size (ZJ M h).toArray d') (h2:SortedIn (ltOf KQ) 0 (ZJ M h).toArray.size d'):d'.toList.map (·.1)=L:=by
 obtain⟨p1,_,p3⟩:=h1
 have e1:d'.extract 0 (ZJ M h).toArray.size=d':=by rw[<-p1];simp
 have e2:(ZJ M h).toArray.extract 0 (ZJ M h).toArray.size=(ZJ M h).toArray:=by simp
 rw[e1,e2]at p3
 have pm:(d'.toList.map (·.1)).Perm M:=by
  have:=p3.map (·.1)
  rw[show(ZJ M h).toArray.toList=ZJ M h from rfl,zex]at this
  exact this
 have hns:(d'.toList.map (·.1)).Pairwise (fun a b=>¬a.same b):=(pm.symm.pairwise_iff (fun {a b} (q:¬a.same b)=>fun s=>q (Rd.same_symm s))).1 hp
 refine KO ?_ hs fun q=>(pm.mem_iff).trans (hM q)
 rw[List.pairwise_iff_getElem]at hns ⊢
 intro i j hi hj hij
 have hi':i<d'.size:=by simpa using hi
 have hj':j<d'.size:=by simpa using hj
 have h3:=h2 i j (Nat.zero_le _) hij (by rw[<-p1];exact hj')
 rw[getElem!_pos d' i hi',getElem!_pos d' j hj']at h3
 have h4:=hns i j hi hj hij
 have ei:(d'.toList.map (·.1))[i]=(d'[i]).1:=by simp
 have ej:(d'.toList.map (·.1))[j]=(d'[j]).1:=by simp
 rw[ei,ej]at h4 ⊢
 rcases Rd.tri (d'[i]).1 (d'[j]).1 with h|h|h
 ·exact h
 ·exact absurd h h4
 ·rw[(KR _ _).2 h]at h3
  cases h3
end Go.Proofs.YtoakpnoajmngmaaGreatDoor
