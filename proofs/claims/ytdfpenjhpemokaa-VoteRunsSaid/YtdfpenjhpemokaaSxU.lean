/-
  A verified symbolic executor, part 21: regions whose order is drawn: the run.
-/
import Derived.Test.YtdfpenjhpemokaaSxT
set_option linter.unusedVariables false
set_option linter.unusedSimpArgs false
namespace Go.Proofs.Ytdfpenjhpemokaa.Sx
open Go.RowKit (Below)

/-- Must j lie before i? -/
def before (bl : List Nat) (i j : Nat) : Bool := Nat.testBit (bl[i]?.getD 0) j
def hidden (bl : List Nat) (tg : List (List Nat)) (N i n : Nat) : Bool := (List.range N).any fun j => !(j == i) && (tg[j]?.getD []).contains n && !(before bl i j) && !(before bl j i)
/-- May another operation write the temporary? -/
def hiddenT (ops : List Oper) (bl : List Nat) (i t : Nat) : Bool := match ownT ops t with
  | some j => !(j == i) && !(before bl i j) && !(before bl j i)
  | none => false
def inRange (r : RS) (S : St) (l : List Nat) (n : Nat) : Bool := decide (n < S.next) || l.any fun j => match r j with
  | some x => decide (x.V.next ≤ n) && decide (n < x.U.next)
  | none => false
def sameEs : List E → List E → Bool
  | [], [] => true
  | a :: l, c :: m => a.same c && sameEs l m
  | _, _ => false
theorem sameEs_eq : ∀ {l m : List E}, sameEs l m = true → l = m := by
  intro l
  induction l with
  | nil => intro m h; cases m <;> simp [sameEs] at h; rfl
  | cons a l ih => intro m h; cases m <;> simp [sameEs] at h; rw [E.same_eq h.1, ih h.2]
/-- Is what an operation gave such that others may be joined to it? -/
def okStep (r : RS) (S : St) (l : List Nat) (tgi : List Nat) (strict : Bool) (x : OR) (dst : Option Tmp) : Bool :=
  let al := fun n => inRange r S l n || (decide (x.V.next ≤ n) && decide (n < x.U.next))
  decide (x.V.next ≤ x.U.next) &&
  x.V.heap.all (fun y => match find x.V.heap y.1 with
    | some e => !e.blk.own || (match find x.U.heap y.1 with
      | some u => sameEs u.g e.g && decide (u.blk.kind = e.blk.kind) && decide (u.blk.elem = e.blk.elem) && (SV.namesL u.blk.cells).all al
      | none => false)
    | none => true) &&
  (match dst with
    | some d => match find x.U.tmps d with
      | some e => e.sv.names.all al
      | none => true
    | none => true) &&
  (news x).all (fun y => (SV.namesL y.2.blk.cells).all al) &&
  (!strict || (wrote x).all (fun y => tgi.contains y.1))
def lastNext (S : St) (acc : List OR) : Nat := match acc.getLast? with
  | some x => x.U.next
  | none => S.next
def guardFor (ops : Array Oper) (V : St) (o : Oper) : List E := match guardOf ops V o with
  | some (some G) => G
  | _ => []
def opTmps (ops : Array Oper) (o : Oper) : List Nat :=
  (match o.guard with
    | some (j, _) => ((ops[j]?).bind (·.dst)).toList
    | none => []) ++ o.op.operands.toList.filterMap fun
      | .tmp t => some t
      | _ => none
def dedup : List Nat → List Nat → List Nat
  | [], acc => acc
  | n :: l, acc => dedup l (if acc.any (Nat.beq n) then acc else n :: acc)
def isCall (o : Oper) : Bool := match o.op with
  | .call c => (match c.callee with
    | .builtin _ => false
    | _ => true)
  | _ => false
/-- Which blocks an operation may look at. -/
def keysFor (r : RS) (S : St) (l : List Nat) (o : Oper) (nms : List Nat) : List Nat :=
  if isCall o then reach ((keysH r S l).filterMap fun n => (entL r S l n).map fun e => (n, e)) 1000 nms [] else dedup nms []
def viewAt (r : RS) (ops : Array Oper) (S : St) (l : List Nat) (hide hideT : Nat → Bool) (lo : Nat) (o : Oper) : St :=
  let V0 := viewOf r ops.toList S l hide hideT (opTmps ops o) [] [] lo
  viewOf r ops.toList S l hide hideT (opTmps ops o) (keysFor r S l o (V0.tmps.flatMap fun x => x.2.sv.names)) (guardFor ops V0 o) lo
def drawOne (P : Program) (et : TypeId) (h : Handler) (pc : List E) (ops : Array Oper) (S : St) (bl : List Nat) (tg : List (List Nat)) (N : Nat) (strict : Bool) (acc : List OR) (o : Oper) : Option (OR × List VC) :=
  let V := viewAt (fun j => acc[j]?) ops S (L N (before bl acc.length)) (hidden bl tg N acc.length) (hiddenT ops.toList bl acc.length) (lastNext S acc) o
  if viewChk V then
    match stepOp P et h pc ops V o with
    | some (.leaf U, vs) => if okStep (fun j => acc[j]?) S (L N (before bl acc.length)) (tg[acc.length]?.getD []) strict ⟨V, U⟩ o.dst then some (⟨V, U⟩, vs) else none
    | _ => none
  else none
def drawL (P : Program) (et : TypeId) (h : Handler) (pc : List E) (ops : Array Oper) (S : St) (bl : List Nat) (tg : List (List Nat)) (N : Nat) (strict : Bool) : List Oper → List OR → Option (List OR × List VC)
  | [], acc => some (acc, [])
  | o :: rest, acc =>
    match drawOne P et h pc ops S bl tg N strict acc o with
    | some (x, vs) => match drawL P et h pc ops S bl tg N strict rest (acc ++ [x]) with
      | some (rs, vs') => some (rs, vs ++ vs')
      | none => none
    | none => none
/-- What is so of each operation. -/
structure Fact (P : Program) (et : TypeId) (h : Handler) (pc : List E) (ops : Array Oper) (S : St) (bl : List Nat) (tg : List (List Nat)) (N : Nat) (pre : List OR) (o : Oper) (x : OR) (vs : List VC) : Prop where
  view : ∃ kt kh G, x.V = viewOf (fun j => pre[j]?) ops.toList S (L N (before bl pre.length)) (hidden bl tg N pre.length) (hiddenT ops.toList bl pre.length) kt kh G (lastNext S pre)
  chk : viewChk x.V = true
  step : stepOp P et h pc ops x.V o = some (.leaf x.U, vs)
  ok : okStep (fun j => pre[j]?) S (L N (before bl pre.length)) (tg[pre.length]?.getD []) true x o.dst = true
theorem drawOne_fact {P : Program} {et : TypeId} {h : Handler} {pc : List E} {ops : Array Oper} {S : St} {bl : List Nat} {tg : List (List Nat)} {N : Nat} {pre : List OR} {o : Oper} {x : OR} {vs : List VC} (hd : drawOne P et h pc ops S bl tg N true pre o = some (x, vs)) : Fact P et h pc ops S bl tg N pre o x vs := by
  unfold drawOne at hd
  dsimp only at hd
  split at hd
  · rename_i hchk
    split at hd
    · rename_i U vs1 hstep
      split at hd
      · rename_i hok
        cases hd
        exact ⟨⟨_, _, _, rfl⟩, hchk, hstep, hok⟩
      · cases hd
    · cases hd
  · cases hd
theorem drawL_facts {P : Program} {et : TypeId} {h : Handler} {pc : List E} {ops : Array Oper} {S : St} {bl : List Nat} {tg : List (List Nat)} {N : Nat} : ∀ {rest : List Oper} {acc rs : List OR} {vs : List VC}, drawL P et h pc ops S bl tg N true rest acc = some (rs, vs) →
    rs.length = acc.length + rest.length ∧ rs.take acc.length = acc ∧ ∀ k o, rest[k]? = some o → ∃ x vs', rs[acc.length + k]? = some x ∧ Fact P et h pc ops S bl tg N (rs.take (acc.length + k)) o x vs' ∧ ∀ v ∈ vs', v ∈ vs := by
  intro rest
  induction rest with
  | nil => intro acc rs vs hs; cases hs; exact ⟨rfl, by simp, fun k o h => by simp at h⟩
  | cons o rest ih =>
    intro acc rs vs hs
    simp only [drawL] at hs
    split at hs
    · rename_i x1 vs1 hone
      split at hs
      · rename_i rs' vs2 hd
        cases hs
        obtain ⟨h1, h2, h3⟩ := ih hd
        simp only [List.length_append, List.length_cons, List.length_nil, Nat.zero_add] at h1 h2 h3
        have hpre : rs.take acc.length = acc := by
          have := congrArg (List.take acc.length) h2
          rw [List.take_take] at this
          simpa using this
        refine ⟨by simp only [List.length_cons]; omega, hpre, fun k o' hk => ?_⟩
        cases k with
        | zero =>
          simp only [List.getElem?_cons_zero, Option.some.injEq] at hk
          subst hk
          refine ⟨x1, vs1, ?_, by rw [Nat.add_zero, hpre]; exact drawOne_fact hone, fun v hv => List.mem_append.2 (.inl hv)⟩
          have := congrArg (fun l => l[acc.length]?) h2
          simp only [List.getElem?_take] at this
          rw [if_pos (by omega)] at this
          rw [Nat.add_zero, this]
          simp
        | succ k =>
          obtain ⟨x, vs', a1, a2, a3⟩ := h3 k o' (by simpa using hk)
          refine ⟨x, vs', by rw [← a1]; congr 1; omega, ?_, fun v hv => List.mem_append.2 (.inr (a3 v hv))⟩
          have e : acc.length + (k + 1) = acc.length + 1 + k := by omega
          rw [e]; exact a2
      · cases hs
    · cases hs
def drawChk (P : Program) (ops : Array Oper) (S : St) (bl : List Nat) : Bool :=
  P.follows .mixedOrders &&
  (List.range ops.size).all (fun i => match ops[i]? with
    | some o => (edgesOf o).all (fun j => decide (j < i)) && decide ((bl[i]?.getD 0) < 2 ^ i) && (List.range i).all (fun j => !before bl i j || (edgesOf o).any fun e => Nat.beq e j || before bl e j) && (match o.dst with
      | some t => decide (ownT ops.toList t = some i)
      | none => true)
    | none => false) &&
  S.heap.all (fun x => decide (x.1 < S.next))
/-- May an operation write what was there? -/
def isW (o : Oper) : Bool := match o.op with
  | .call c => (match c.callee with
    | .builtin .append => true
    | .builtin .copy => true
    | .builtin _ => false
    | _ => true)
  | .store .. => true
  | _ => false
/-- A region whose order is drawn. -/
def runDraw (P : Program) (et : TypeId) (h : Handler) (ops : Array Oper) (pc : List E) (S : St) : Option (T St × List VC) :=
  let bl := befs ops.toList []
  let N := ops.size
  if drawChk P ops S bl then
    let r := if ops.toList.any (fun o => isW o) then
        match drawL P et h pc ops S bl [] N false ops.toList [] with
        | some (rs, _) => let tg : List (List Nat) := List.map (fun (x : OR) => (wrote x).map Prod.fst) rs
          (drawL P et h pc ops S bl tg N true ops.toList []).map fun x => (tg, x)
        | none => none
      else (drawL P et h pc ops S bl [] N true ops.toList []).map fun x => ([], x)
    match r with
    | some (_, rs, vs) => some (.leaf (viewOf (fun j => rs[j]?) ops.toList S (L N fun _ => true) (fun _ => false) (fun _ => false) (keysT ops.toList S) (keysH (fun j => rs[j]?) S (L N fun _ => true)) [] (lastNext S rs)), vs)
    | none => none
  else none
end Go.Proofs.Ytdfpenjhpemokaa.Sx
