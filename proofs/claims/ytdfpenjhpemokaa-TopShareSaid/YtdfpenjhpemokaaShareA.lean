/-
  R.Total, R.SpreadMay: worked out. Written by a program of ours (wip/dev/sx).
-/
import Derived.Test.YtdfpenjhpemokaaShareP
import Derived.Test.YtdfpenjhpemokaaProg
set_option linter.unusedVariables false
set_option linter.unusedSimpArgs false
namespace Go.Proofs.Ytdfpenjhpemokaa.Sx
def sKKeeps : List (Nat × List (Nat × List Nat)) := [(49, [(0, [2, 3, 4]), (1, [2, 3, 4, 6]), (2, [4]), (3, [4])]),
  (51, [(0, [0, 1, 2]), (1, [6])]),
  (155, [(0, [2, 3, 4]), (1, [2, 7]), (2, [6])])]
def sKArgs : List SV := [.agg [.int .i64 ⟨(.v 20), 1, 1000⟩, .int .i64 ⟨(.v 21), 1, 1000⟩, .int .i64 ⟨(.v 22), 0, 1000⟩, .int .i64 ⟨(.v 23), 1, 10⟩], .agg [.int .i64 ⟨(.v 30), (-1000), 1000⟩, .int .i64 ⟨(.v 31), (-9223372036854775808), 9223372036854775807⟩, .bool (.bv 32)], .int .i64 ⟨(.v 33), (-9223372036854775808), 9223372036854775807⟩]
def sKL0 : List LS := [⟨[], .ret, ⟨[(6, ⟨[], .int .i64 ⟨(.v 900), (-1000), 1000⟩⟩)], [], 0, 17⟩, ⟨[(900, (.bin .min (.v 286107394256503435) (.ite (.bv 32) (.c 0) (.bin .min (.bin .add (.v 30) (.v 21)) (.v 20)))))], []⟩⟩]
def sKV0 : List VC := [⟨[], (.bin .eq (.v 286107394256503435) (.bin .max (.v 33) (.ite (.bv 32) (.c 0) (.bin .max (.bin .sub (.v 30) (.v 21)) (.bin .sub (.c 0) (.v 20))))))⟩]
theorem sK_ran0 : ran (runP Try.prog 23 (cfgK noSum sKKeeps 50 12) 155 (partsOf Try.prog 155) (start Try.prog 155 sKArgs [] 0)) sKL0 sKV0 = true := by kernel_rfl
def sKW0 : List VC := []
theorem sK_defs0 : defs sKV0 [] [] = sKW0 := by kernel_rfl
theorem sK_no0 : sKW0.all VC.isNo = true := by kernel_rfl
theorem sK_w0 (ρ : Env) : andV ρ sKW0 = (True) := by kernel_rfl
theorem sK_says0 (ρ : Env) : saysL ρ sKV0 = (ρ.iv 286107394256503435 = (max (ρ.iv 33) (if (ρ.bv 32) = true then (0 : Int) else (max ((ρ.iv 30) - (ρ.iv 21)) ((0 : Int) - (ρ.iv 20))))) ∧
  True) := by kernel_rfl
def sTKeeps : List (Nat × List (Nat × List Nat)) := [(49, [(0, [2, 3, 4]), (1, [2, 3, 4, 6]), (2, [4]), (3, [4])]),
  (51, [(0, [0, 1, 2]), (1, [6])]),
  (124, [(0, [1, 2, 3]), (1, [1, 2, 3, 7]), (2, [1, 2, 3, 7, 8]), (3, [1, 2, 3, 7, 8, 12]), (4, [1, 2, 3, 7, 8]), (5, [1, 2, 3, 7, 8]), (6, [6])]),
  (155, [(0, [2, 3, 4]), (1, [2, 7]), (2, [6])])]
def sTArgs : List SV := [.agg [.int .i64 ⟨(.v 20), 1, 1000⟩, .int .i64 ⟨(.v 21), 1, 1000⟩, .int .i64 ⟨(.v 22), 0, 1000⟩, .int .i64 ⟨(.v 23), 1, 10⟩], .osl 0 [.int .i64 (-9223372036854775808) 9223372036854775807, .int .i64 (-9223372036854775808) 9223372036854775807, .bool] ⟨(.v 4), 0, 4⟩, .int .i64 ⟨(.v 24), (-9223372036854775808), 9223372036854775807⟩]
def sTS1 : St := ⟨[(8, ⟨[], .int .i64 ⟨(.v 14), 0, 4⟩⟩), (7, ⟨[], .int .i64 ⟨(.v 13), (-4000), 4000⟩⟩), (3, ⟨[], .ptr 0 0⟩), (1, ⟨[], .osl 0 [.int .i64 (-9223372036854775808) 9223372036854775807, .int .i64 (-9223372036854775808) 9223372036854775807, .bool] ⟨(.v 4), 0, 4⟩⟩), (2, ⟨[], .int .i64 ⟨(.v 24), (-9223372036854775808), 9223372036854775807⟩⟩)], [(0, ⟨[], ⟨[.int .i64 ⟨(.v 20), 1, 1000⟩, .int .i64 ⟨(.v 21), 1, 1000⟩, .int .i64 ⟨(.v 22), 0, 1000⟩, .int .i64 ⟨(.v 23), 1, 10⟩], 53, .full⟩⟩)], 1, 25⟩
def sTL0 : List LS := [⟨[], .normal, sTS1, ⟨[(14, (.c 0)), (13, (.c 0))], []⟩⟩]
def sTV0 : List VC := []
theorem sT_ran0 : ran (runP Try.prog 23 (cfgK sTSum sTKeeps 50 12) 124 (partOf Try.prog 124 0 3) (start Try.prog 124 sTArgs [] 0)) sTL0 sTV0 = true := by kernel_rfl
def sTW0 : List VC := []
theorem sT_defs0 : defs sTV0 [] [] = sTW0 := by kernel_rfl
theorem sT_no0 : sTW0.all VC.isNo = true := by kernel_rfl
theorem sT_w0 (ρ : Env) : andV ρ sTW0 = (True) := by kernel_rfl
def sTL1 : List LS := [⟨[(.bin .lt (.v 14) (.v 4))], .normal, sTS1, ⟨[(14, (.bin .add (.v 14) (.c 1))), (13, (.v 1848989708117186001))], []⟩⟩,
  ⟨[(.bin .le (.v 4) (.v 14))], (.exit 0), sTS1, ⟨[], []⟩⟩]
def sTV1 : List VC := [⟨[(.bin .lt (.v 14) (.v 4))], (.bin .eq (.ap 88 (.cons (.v 20) (.cons (.v 21) (.cons (.v 22) (.cons (.v 23) (.cons (.ap 1000 (.cons (.v 14) .nil)) (.cons (.ap 1001 (.cons (.v 14) .nil)) (.cons (.ite (.ap 1002 (.cons (.v 14) .nil)) (.c 1) (.c 0)) .nil)))))))) (.c 0))⟩,
  ⟨[], (.bin .eq (.v 1848989708117186001) (.bin .add (.v 13) (.ap 83 (.cons (.v 20) (.cons (.v 21) (.cons (.ap 1000 (.cons (.v 14) .nil)) (.cons (.ite (.ap 1002 (.cons (.v 14) .nil)) (.c 1) (.c 0)) (.cons (.v 24) .nil))))))))⟩]
theorem sT_ran1 : ran (runP Try.prog 23 (cfgK sTSum sTKeeps 50 12) 124 (loopOf Try.prog 124 3) sTS1) sTL1 sTV1 = true := by kernel_rfl
def sTW1 : List VC := [⟨[(.bin .lt (.v 14) (.v 4))], (.bin .eq (.ap 88 (.cons (.v 20) (.cons (.v 21) (.cons (.v 22) (.cons (.v 23) (.cons (.ap 1000 (.cons (.v 14) .nil)) (.cons (.ap 1001 (.cons (.v 14) .nil)) (.cons (.ite (.ap 1002 (.cons (.v 14) .nil)) (.c 1) (.c 0)) .nil)))))))) (.c 0))⟩]
theorem sT_defs1 : defs sTV1 [] [] = sTW1 := by kernel_rfl
theorem sT_no1 : sTW1.all VC.isNo = true := by kernel_rfl
theorem sT_w1 (ρ : Env) : andV ρ sTW1 = (((decide ((ρ.iv 14) < (ρ.iv 4))) = true ∧ True → (decide ((ρ.fn 88 ((ρ.iv 20) :: ((ρ.iv 21) :: ((ρ.iv 22) :: ((ρ.iv 23) :: ((ρ.fn 1000 ((ρ.iv 14) :: [])) :: ((ρ.fn 1001 ((ρ.iv 14) :: [])) :: ((if (ρ.fb 1002 ((ρ.iv 14) :: [])) = true then (1 : Int) else (0 : Int)) :: [])))))))) = (0 : Int))) = true) ∧ True) := by kernel_rfl
theorem sT_says1 (ρ : Env) : saysL ρ sTV1 = (True ∧
  ρ.iv 1848989708117186001 = ((ρ.iv 13) + (ρ.fn 83 ((ρ.iv 20) :: ((ρ.iv 21) :: ((ρ.fn 1000 ((ρ.iv 14) :: [])) :: ((if (ρ.fb 1002 ((ρ.iv 14) :: [])) = true then (1 : Int) else (0 : Int)) :: ((ρ.iv 24) :: []))))))) ∧
  True) := by kernel_rfl
theorem sT_1_pc0 (ρ : Env) : andB ρ [(.bin .lt (.v 14) (.v 4))] = ((decide ((ρ.iv 14) < (ρ.iv 4))) = true ∧ True) := by kernel_rfl
theorem sT_1_pc1 (ρ : Env) : andB ρ [(.bin .le (.v 4) (.v 14))] = ((decide ((ρ.iv 4) ≤ (ρ.iv 14))) = true ∧ True) := by kernel_rfl
def sTL2 : List LS := [⟨[], .ret, ⟨[(6, ⟨[], .int .i64 ⟨(.v 900), (-4000), 4000⟩⟩)], [], 0, 25⟩, ⟨[(900, (.v 13))], []⟩⟩]
def sTV2 : List VC := []
theorem sT_ran2 : ran (runP Try.prog 23 (cfgK sTSum sTKeeps 50 12) 124 (partOf Try.prog 124 4 6) sTS1) sTL2 sTV2 = true := by kernel_rfl
def sTW2 : List VC := []
theorem sT_defs2 : defs sTV2 [] [] = sTW2 := by kernel_rfl
theorem sT_no2 : sTW2.all VC.isNo = true := by kernel_rfl
theorem sT_w2 (ρ : Env) : andV ρ sTW2 = (True) := by kernel_rfl
end Go.Proofs.Ytdfpenjhpemokaa.Sx
/-
  R.taken, R.Total, R.SpreadMay: what they answer.
-/
namespace Go.Proofs.Ytdfpenjhpemokaa.Sx
open Go.RowKit
def shM (g : GD) (t r s c x : Int) : Nat → Int := fun k => match k with | 4 => g.n | 20 => t | 21 => r | 22 => s | 23 => c | 24 => x | _ => 0
def shK (t r s c x y l : Int) : Nat → Int := fun k => match k with | 20 => t | 21 => r | 22 => s | 23 => c | 30 => x | 31 => y | 33 => l | _ => 0
structure ShB (g : GD) (t r s c x : Int) (ρ : Env) : Prop where
  std : Std shF noB (fun _ => g) ρ
  l4 : ρ.iv 4 = g.n
  e20 : ρ.iv 20 = t
  e21 : ρ.iv 21 = r
  e22 : ρ.iv 22 = s
  e23 : ρ.iv 23 = c
  e24 : ρ.iv 24 = x
theorem ShB.same {g : GD} {t r s c x : Int} {ρ ρ' : Env} (h : ShB g t r s c x ρ) (hs : Same ρ ρ' [] []) : ShB g t r s c x ρ' := ⟨h.std.same hs, (iv_same hs (n := 4) rfl).trans h.l4, (iv_same hs (n := 20) rfl).trans h.e20, (iv_same hs (n := 21) rfl).trans h.e21, (iv_same hs (n := 22) rfl).trans h.e22, (iv_same hs (n := 23) rfl).trans h.e23, (iv_same hs (n := 24) rfl).trans h.e24⟩
theorem Jm.shb {g : GD} {t r s c x : Int} {ρ : Env} (h : Jm shF noB (fun _ => g) (shM g t r s c x) (fun _ => false) ρ) : ShB g t r s c x ρ := ⟨h.std, h.at_ 4 rfl, h.at_ 20 rfl, h.at_ 21 rfl, h.at_ 22 rfl, h.at_ 23 rfl, h.at_ 24 rfl⟩
structure ShI (g : GD) (t r s c x : Int) (ρ : Env) : Prop where
  b : ShB g t r s c x ρ
  low : 0 ≤ ρ.iv 14
  high : ρ.iv 14 ≤ g.n
  acc : ρ.iv 13 = ptotS g t r x (ρ.iv 14).toNat
theorem ShI.same {g : GD} {t r s c x : Int} {ρ ρ' : Env} (h : ShI g t r s c x ρ) (hs : Same ρ ρ' [] []) : ShI g t r s c x ρ' ∧ (g.n - ρ'.iv 14).toNat = (g.n - ρ.iv 14).toNat := by
  have e := iv_same hs (n := 14) rfl
  have e' := iv_same hs (n := 13) rfl
  exact ⟨⟨h.b.same hs, by rw [e]; exact h.low, by rw [e]; exact h.high, by rw [e, e']; exact h.acc⟩, by rw [e]⟩
structure ShJ (g : GD) (t r s c : Int) (ρ : Env) : Prop where
  b : ShB g t r s c 0 ρ
  low : 0 ≤ ρ.iv 14
  high : ρ.iv 14 ≤ g.n
  acc : ρ.iv 13 = psm g t r s c g.n (ρ.iv 14).toNat
theorem ShJ.same {g : GD} {t r s c : Int} {ρ ρ' : Env} (h : ShJ g t r s c ρ) (hs : Same ρ ρ' [] []) : ShJ g t r s c ρ' ∧ (g.n - ρ'.iv 14).toNat = (g.n - ρ.iv 14).toNat := by
  have e := iv_same hs (n := 14) rfl
  have e' := iv_same hs (n := 13) rfl
  exact ⟨⟨h.b.same hs, by rw [e]; exact h.low, by rw [e]; exact h.high, by rw [e, e']; exact h.acc⟩, by rw [e]⟩
set_option maxRecDepth 100000 in
set_option maxHeartbeats 1000000 in
theorem refTaken (t r s c x y : Int) (o : Bool) (l : Int) (w : World) (hps : pservo t r s c x y o = 0) (by_ : B64 y) (bl : B64 l) :
    Calls Try.prog 155 #[.agg #[.int .i64 t, .int .i64 r, .int .i64 s, .int .i64 c], .agg #[.int .i64 x, .int .i64 y, .bool o], .int .i64 l] w fun e w' => e = .returned (.int .i64 (ptk t r x o l)) ∧ Below w.heap.size w w' := by
  obtain ⟨⟨a1, a2, a3, a4, a5, a6, a7, a8⟩, b1, b2, b3, b4, b5, b6⟩ := pservo_0 hps
  unfold B64 at by_ bl
  obtain ⟨ρ0, h0⟩ := Jm.start shF noB (fun _ => GD.none) (shK t r s c x y l) (fun k => if k = 32 then o else false)
  have e20 : ρ0.iv 20 = t := h0.at_ 20 rfl
  have e21 : ρ0.iv 21 = r := h0.at_ 21 rfl
  have e22 : ρ0.iv 22 = s := h0.at_ 22 rfl
  have e23 : ρ0.iv 23 = c := h0.at_ 23 rfl
  have e30 : ρ0.iv 30 = x := h0.at_ 30 rfl
  have e31 : ρ0.iv 31 = y := h0.at_ 31 rfl
  have e33 : ρ0.iv 33 = l := h0.at_ 33 rfl
  have e32 : ρ0.bv 32 = o := h0.bt 32 rfl
  have hm := h0.mem (w := w) (fun _ => GD.none_ok w)
  have key := piece_ret (P := Try.prog) (cfg := cfgK noSum sKKeeps 50 12) Try.func155 rfl (args := sKArgs) (H := []) (nx := 0) sK_ran0 sK_defs0 sK_no0 (V := .int .i64 (ptk t r x o l)) (Jm shF noB (fun _ => GD.none) (shK t r s c x y l) (fun k => if k = 32 then o else false))
    (fun ρ h => ⟨h.std.et, noSum_ok _ _⟩) (fun ρ ρ' h hs => h.same hs) (by kernel_rfl)
    (fun ρ h => by
      have e20 : ρ.iv 20 = t := h.at_ 20 rfl
      have e21 : ρ.iv 21 = r := h.at_ 21 rfl
      have e22 : ρ.iv 22 = s := h.at_ 22 rfl
      have e23 : ρ.iv 23 = c := h.at_ 23 rfl
      have e30 : ρ.iv 30 = x := h.at_ 30 rfl
      have e31 : ρ.iv 31 = y := h.at_ 31 rfl
      have e33 : ρ.iv 33 = l := h.at_ 33 rfl
      refine List.forall_mem_cons.2 ⟨?_, List.forall_mem_cons.2 ⟨?_, List.forall_mem_cons.2 ⟨?_, List.forall_mem_cons.2 ⟨?_, List.forall_mem_cons.2 ⟨?_, List.forall_mem_cons.2 ⟨?_, List.forall_mem_cons.2 ⟨?_, fun _ h => nomatch h⟩⟩⟩⟩⟩⟩⟩
      · exact fit_of (z := ρ.iv 20) rfl (by show (1 : Int) ≤ ρ.iv 20; omega) (by show ρ.iv 20 ≤ 1000; omega)
      · exact fit_of (z := ρ.iv 21) rfl (by show (1 : Int) ≤ ρ.iv 21; omega) (by show ρ.iv 21 ≤ 1000; omega)
      · exact fit_of (z := ρ.iv 22) rfl (by show (0 : Int) ≤ ρ.iv 22; omega) (by show ρ.iv 22 ≤ 1000; omega)
      · exact fit_of (z := ρ.iv 23) rfl (by show (1 : Int) ≤ ρ.iv 23; omega) (by show ρ.iv 23 ≤ 10; omega)
      · exact fit_of (z := ρ.iv 30) rfl (by show (-1000 : Int) ≤ ρ.iv 30; omega) (by show ρ.iv 30 ≤ 1000; omega)
      · exact fit_of (z := ρ.iv 31) rfl (by show (-9223372036854775808 : Int) ≤ ρ.iv 31; omega) (by show ρ.iv 31 ≤ 9223372036854775807; omega)
      · exact fit_of (z := ρ.iv 33) rfl (by show (-9223372036854775808 : Int) ≤ ρ.iv 33; omega) (by show ρ.iv 33 ≤ 9223372036854775807; omega))
    (fun ρ h hv => Eq.mpr (sK_w0 ρ) (by
      trivial))
    (by
      refine List.forall_mem_cons.2 ⟨?_, fun _ h => nomatch h⟩
      · intro ρ h hv hp
        refine ⟨.inr rfl, List.forall_mem_cons.2 ⟨?_, fun _ h => nomatch h⟩, [.int .i64 ⟨(.v 900), (-1000), 1000⟩], by kernel_rfl, fun b => ?_⟩
        all_goals have e20 : ρ.iv 20 = t := h.at_ 20 rfl
        all_goals have e21 : ρ.iv 21 = r := h.at_ 21 rfl
        all_goals have e30 : ρ.iv 30 = x := h.at_ 30 rfl
        all_goals have e33 : ρ.iv 33 = l := h.at_ 33 rfl
        all_goals have e32 : ρ.bv 32 = o := h.bt 32 rfl
        all_goals obtain ⟨k1, -⟩ := Eq.mp (sK_says0 ρ) hv
        all_goals rw [e20, e21, e30, e32, e33] at k1
        · refine fit_of (z := ptk t r x o l) ?_ (by have := ptk_bd hps l; show (-1000 : Int) ≤ _; omega) (by have := ptk_bd hps l; show _ ≤ (1000 : Int); omega)
          show min (ρ.iv 286107394256503435) (if ρ.bv 32 = true then 0 else min (ρ.iv 30 + ρ.iv 21) (ρ.iv 20)) = _
          rw [k1, e20, e21, e30, e32]
          unfold ptk
          cases o
          · simp only [Bool.false_eq_true, if_false]; congr 2; omega
          · simp only [if_true]; omega
        · show Value.int .i64 (min (ρ.iv 286107394256503435) (if ρ.bv 32 = true then 0 else min (ρ.iv 30 + ρ.iv 21) (ρ.iv 20))) = _
          rw [k1, e20, e21, e30, e32]
          congr 1
          unfold ptk
          cases o
          · simp only [Bool.false_eq_true, if_false]; congr 2; omega
          · simp only [if_true]; omega)
    h0 ⟨fun _ => 0, fun _ => 0, fun _ => 0⟩ w (noHeap _ _ _ _) (by
          refine ⟨⟨?_, ?_, ?_, ?_, trivial⟩, ⟨?_, ?_, trivial, trivial⟩, ?_, trivial⟩
          all_goals refine ⟨?_, ?_⟩
          all_goals simp only [E.i, e20, e21, e22, e23, e30, e31, e33]
          all_goals omega) hm
  have e : SV.denL ρ0 ⟨fun _ => 0, fun _ => 0, fun _ => 0⟩ sKArgs = [.agg #[.int .i64 t, .int .i64 r, .int .i64 s, .int .i64 c], .agg #[.int .i64 x, .int .i64 y, .bool o], .int .i64 l] := by
    unfold sKArgs
    simp only [SV.denL]
    simp only [den_agg, den_bool, SV.denL, den_int, E.i, E.b, e20, e21, e22, e23, e30, e31, e32, e33]
  rw [e] at key
  exact key
theorem sT_sum {G : Nat → GD} {ρ : Env} (h : Std shF noB G ρ) : HOK Try.prog ρ sTSum := taken_ok h fun t r s c x y o l w hp b0 b1 => refTaken t r s c x y o l w hp b0 b1
set_option maxRecDepth 100000 in
set_option maxHeartbeats 1000000 in
theorem refTotal (g : GD) (hk : g.ks = [true, true, false]) (t r s c x : Int) (w : World) (o : g.ok w) (hps : pspreadMay g t r s c = 0) (bx : B64 x) :
    Calls Try.prog 124 #[.agg #[.int .i64 t, .int .i64 r, .int .i64 s, .int .i64 c], .slice g.A g.n g.c, .int .i64 x] w fun e w' => e = .returned (.int .i64 (ptotS g t r x g.n)) ∧ Below w.heap.size w w' := by
  unfold B64 at bx
  have hs0 := psm_all _ hps
  obtain ⟨⟨a1, a2, a3, a4, a5, a6, a7, a8⟩, b1, b2, b3⟩ := hs0
  obtain ⟨ρ0, hj⟩ := Jm.start shF noB (fun _ => g) (shM g t r s c x) (fun _ => false)
  have h0 := hj.shb
  have hG : ∀ k : Nat, ((fun _ => g) k).ok w := fun _ => o
  have hm := hj.mem (w := w) hG
  obtain ⟨s1, s2⟩ := h0.std.osl hG (k := 0) (sh := [.int .i64 (-9223372036854775808) 9223372036854775807, .int .i64 (-9223372036854775808) 9223372036854775807, .bool]) (by show g.ks.map ckOf = _; rw [hk]; rfl) (by show g.ks.length ≤ 100; rw [hk]; decide) (e := .v 4) (lo := 0) (hi := 4) h0.l4 (by decide) (by show (0 : Int) ≤ g.n; omega) (by show (g.n : Int) ≤ 4; omega) (· < 0) ⟨fun _ => 0, fun _ => 0, fun _ => 0⟩
  clear hj
  have key := loop1_ret (P := Try.prog) (cfg := cfgK sTSum sTKeeps 50 12) Try.func124 rfl (k := 3) (i := 0) (n := 6) (by decide +kernel) (by kernel_rfl) (args := sTArgs) (H := []) (nx := 0) sT_ran0 sT_defs0 sT_no0 sT_ran1 sT_defs1 sT_no1 sT_ran2 sT_defs2 sT_no2 (V := .int .i64 (ptotS g t r x g.n)) (ShB g t r s c x) (ShI g t r s c x) (fun ρ => ShI g t r s c x ρ ∧ g.n ≤ ρ.iv 14) (fun ρ => (g.n - ρ.iv 14).toNat)
    (fun ρ h => ⟨h.std.et, sT_sum h.std⟩) (fun ρ h => ⟨h.b.std.et, sT_sum h.b.std⟩) (fun ρ ρ' h hs => h.same hs) (fun ρ ρ' h hs => h.same hs) (fun ρ h => h.1) (fun ρ ρ' h hs => ⟨(h.1.same hs).1, by rw [iv_same hs (n := 14) rfl]; exact h.2⟩) (by kernel_rfl)
    (fun ρ h => by
      have e20 : ρ.iv 20 = t := h.e20
      have e21 : ρ.iv 21 = r := h.e21
      have e22 : ρ.iv 22 = s := h.e22
      have e23 : ρ.iv 23 = c := h.e23
      have e24 := h.e24
      have h4 := h.l4
      have hz := bx
      refine List.forall_mem_cons.2 ⟨?_, List.forall_mem_cons.2 ⟨?_, List.forall_mem_cons.2 ⟨?_, List.forall_mem_cons.2 ⟨?_, List.forall_mem_cons.2 ⟨?_, List.forall_mem_cons.2 ⟨?_, fun _ h => nomatch h⟩⟩⟩⟩⟩⟩
      · exact fit_of (z := ρ.iv 20) rfl (by show (1 : Int) ≤ ρ.iv 20; omega) (by show ρ.iv 20 ≤ 1000; omega)
      · exact fit_of (z := ρ.iv 21) rfl (by show (1 : Int) ≤ ρ.iv 21; omega) (by show ρ.iv 21 ≤ 1000; omega)
      · exact fit_of (z := ρ.iv 22) rfl (by show (0 : Int) ≤ ρ.iv 22; omega) (by show ρ.iv 22 ≤ 1000; omega)
      · exact fit_of (z := ρ.iv 23) rfl (by show (1 : Int) ≤ ρ.iv 23; omega) (by show ρ.iv 23 ≤ 10; omega)
      · exact fit_of (z := ρ.iv 4) rfl (by show (0 : Int) ≤ ρ.iv 4; omega) (by show ρ.iv 4 ≤ 4; omega)
      · exact fit_of (z := ρ.iv 24) rfl (by show (-9223372036854775808 : Int) ≤ ρ.iv 24; omega) (by show ρ.iv 24 ≤ 9223372036854775807; omega))
    (fun ρ h => by
      have e20 : ρ.iv 20 = t := h.b.e20
      have e21 : ρ.iv 21 = r := h.b.e21
      have e22 : ρ.iv 22 = s := h.b.e22
      have e23 : ρ.iv 23 = c := h.b.e23
      have e24 := h.b.e24
      have h4 := h.b.l4
      have h5 := h.low
      have h6 := h.high
      have h7 := h.acc
      have h8 := ptotS_bd (n := 0) (ρ.iv 14).toNat (fun i hi => b3 i (by omega)) x
      have m1 : t * ((ρ.iv 14).toNat : Int) ≤ 1000 * 4 := Int.mul_le_mul a2 (by omega) (by omega) (by omega)
      have m2 : -t * ((ρ.iv 14).toNat : Int) = -(t * (ρ.iv 14).toNat) := Int.neg_mul _ _
      rw [m2] at h8
      refine List.forall_mem_cons.2 ⟨?_, List.forall_mem_cons.2 ⟨?_, List.forall_mem_cons.2 ⟨?_, List.forall_mem_cons.2 ⟨?_, List.forall_mem_cons.2 ⟨?_, List.forall_mem_cons.2 ⟨?_, List.forall_mem_cons.2 ⟨?_, List.forall_mem_cons.2 ⟨?_, fun _ h => nomatch h⟩⟩⟩⟩⟩⟩⟩⟩
      · exact fit_of (z := ρ.iv 14) rfl (by show (0 : Int) ≤ ρ.iv 14; omega) (by show ρ.iv 14 ≤ 4; omega)
      · exact fit_of (z := ρ.iv 13) rfl (by show (-4000 : Int) ≤ ρ.iv 13; omega) (by show ρ.iv 13 ≤ 4000; omega)
      · exact fit_of (z := ρ.iv 4) rfl (by show (0 : Int) ≤ ρ.iv 4; omega) (by show ρ.iv 4 ≤ 4; omega)
      · exact fit_of (z := ρ.iv 24) rfl (by show (-9223372036854775808 : Int) ≤ ρ.iv 24; omega) (by show ρ.iv 24 ≤ 9223372036854775807; omega)
      · exact fit_of (z := ρ.iv 20) rfl (by show (1 : Int) ≤ ρ.iv 20; omega) (by show ρ.iv 20 ≤ 1000; omega)
      · exact fit_of (z := ρ.iv 21) rfl (by show (1 : Int) ≤ ρ.iv 21; omega) (by show ρ.iv 21 ≤ 1000; omega)
      · exact fit_of (z := ρ.iv 22) rfl (by show (0 : Int) ≤ ρ.iv 22; omega) (by show ρ.iv 22 ≤ 1000; omega)
      · exact fit_of (z := ρ.iv 23) rfl (by show (1 : Int) ≤ ρ.iv 23; omega) (by show ρ.iv 23 ≤ 10; omega))
    (fun ρ h hv => Eq.mpr (sT_w0 ρ) (by
      trivial))
    (fun ρ h hv => Eq.mpr (sT_w1 ρ) (by
      have h4 := h.b.l4
      have h5 := h.low
      have e20 := h.b.e20
      have e21 := h.b.e21
      have e22 := h.b.e22
      have e23 := h.b.e23
      refine ⟨fun ⟨cc, _⟩ => decide_eq_true ?_, trivial⟩
      have cc := of_decide_eq_true cc
      rw [e20, e21, e22, e23]
      have f0 : ρ.fn 1000 [ρ.iv 14] = g.fi (ρ.iv 14).toNat 0 := h.b.std.e (k := 0) (j := 0) rfl _
      have f1 : ρ.fn 1001 [ρ.iv 14] = g.fi (ρ.iv 14).toNat 1 := h.b.std.e (k := 0) (j := 1) rfl _
      have f2 : ρ.fb 1002 [ρ.iv 14] = g.fb (ρ.iv 14).toNat 2 := h.b.std.eb (k := 0) (j := 2) rfl _
      rw [f0, f1, f2, h.b.std.f rfl]
      show pservo _ _ _ _ _ _ (decide _) = 0
      rw [dec01]
      exact b3 _ (by omega)))
    (fun ρ h hv => Eq.mpr (sT_w2 ρ) (by
      trivial))
    (by
      refine List.forall_mem_cons.2 ⟨?_, fun _ h => nomatch h⟩
      · intro ρ h hv hp
        refine .inr ⟨rfl, rfl, ?_⟩
        exact ⟨⟨h.std.sub _, h.l4, h.e20, h.e21, h.e22, h.e23, h.e24⟩, Int.le_refl _, Int.natCast_nonneg _, rfl⟩)
    (by
      refine List.forall_mem_cons.2 ⟨?_, List.forall_mem_cons.2 ⟨?_, fun _ h => nomatch h⟩⟩
      · intro ρ h hv hp
        obtain ⟨c0, _⟩ := Eq.mp (sT_1_pc0 ρ) hp
        refine .inl ⟨rfl, rfl, ?_, ?_⟩
        · obtain ⟨-, k1, -⟩ := Eq.mp (sT_says1 ρ) hv
          have cc := of_decide_eq_true c0
          have h4 := h.b.l4
          have h5 := h.low
          have ek : (ρ.iv 14 + 1).toNat = (ρ.iv 14).toNat + 1 := by omega
          have f0 : ρ.fn 1000 [ρ.iv 14] = g.fi (ρ.iv 14).toNat 0 := h.b.std.e (k := 0) (j := 0) rfl _
          have f2 : ρ.fb 1002 [ρ.iv 14] = g.fb (ρ.iv 14).toNat 2 := h.b.std.eb (k := 0) (j := 2) rfl _
          have e83 : ρ.fn 83 [t, r, g.fi (ρ.iv 14).toNat 0, if g.fb (ρ.iv 14).toNat 2 = true then 1 else 0, x] = ptk t r (g.fi (ρ.iv 14).toNat 0) (g.fb (ρ.iv 14).toNat 2) x := by
            rw [h.b.std.f rfl]
            show ptk _ _ _ (decide _) _ = _
            rw [dec01]
          rw [f0, f2, h.b.e20, h.b.e21, h.b.e24, e83, h.acc] at k1
          exact ⟨⟨h.b.std.sub _, h.b.l4, h.b.e20, h.b.e21, h.b.e22, h.b.e23, h.b.e24⟩, by show 0 ≤ ρ.iv 14 + 1; omega, by show ρ.iv 14 + 1 ≤ g.n; omega, by show ρ.iv 1848989708117186001 = ptotS g t r x (ρ.iv 14 + 1).toNat; rw [k1, ek]; rfl⟩
        · have cc := of_decide_eq_true c0
          have h4 := h.b.l4
          have h5 := h.low
          show (g.n - (ρ.iv 14 + 1)).toNat < (g.n - ρ.iv 14).toNat
          omega
      · intro ρ h hv hp
        obtain ⟨c0, _⟩ := Eq.mp (sT_1_pc1 ρ) hp
        refine .inr (.inl ⟨rfl, rfl, ?_⟩)
        have cc := of_decide_eq_true c0
        have h4 := h.b.l4
        exact ⟨⟨⟨h.b.std.sub _, h.b.l4, h.b.e20, h.b.e21, h.b.e22, h.b.e23, h.b.e24⟩, h.low, h.high, h.acc⟩, by show (g.n : Int) ≤ ρ.iv 14; omega⟩)
    (by
      refine List.forall_mem_cons.2 ⟨?_, fun _ h => nomatch h⟩
      · intro ρ h hv hp
        refine ⟨.inr rfl, List.forall_mem_cons.2 ⟨?_, fun _ h => nomatch h⟩, [.int .i64 ⟨(.v 900), (-4000), 4000⟩], by kernel_rfl, fun b => ?_⟩
        all_goals have h5 := h.1.low
        all_goals have h6 := h.1.high
        all_goals have h7 := h.2
        all_goals have hq := h.1.acc
        all_goals rw [show (ρ.iv 14).toNat = g.n by omega] at hq
        · have := ptotS_bd4 hps x
          exact fit_of (z := ρ.iv 13) rfl (by show (-4000 : Int) ≤ _; omega) (by show _ ≤ (4000 : Int); omega)
        · show Value.int .i64 (ρ.iv 13) = _
          rw [hq])
    h0 ⟨fun _ => 0, fun _ => 0, fun _ => 0⟩ w (noHeap _ _ _ _) (by
          refine ⟨⟨⟨?_, ?_⟩, ⟨?_, ?_⟩, ⟨?_, ?_⟩, ⟨?_, ?_⟩, trivial⟩, s1, ⟨?_, ?_⟩, trivial⟩
          all_goals simp only [E.i, h0.e20, h0.e21, h0.e22, h0.e23, h0.e24]
          all_goals omega) hm
  have e : SV.denL ρ0 ⟨fun _ => 0, fun _ => 0, fun _ => 0⟩ sTArgs = [.agg #[.int .i64 t, .int .i64 r, .int .i64 s, .int .i64 c], .slice g.A g.n g.c, .int .i64 x] := by
    unfold sTArgs
    simp only [SV.denL]
    simp only [den_agg, SV.denL, den_int, E.i, h0.e20, h0.e21, h0.e22, h0.e23, h0.e24]
    rw [s2]
  rw [e] at key
  exact key
end Go.Proofs.Ytdfpenjhpemokaa.Sx
