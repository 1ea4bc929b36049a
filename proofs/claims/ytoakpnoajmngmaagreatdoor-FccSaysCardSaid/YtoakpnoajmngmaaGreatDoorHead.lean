/-
  The head word of the translation, spelt out: may the claim's function be entered at once. No condition.
-/
import Derived.Test.YtoakpnoajmngmaaGreatDoorRows
import Derived.KernelRfl
namespace Go.Proofs.YtoakpnoajmngmaaGreatDoor
theorem mayEnter_of (P : Program) (rest : List (List Char)) (h : behindMainWord (wordsSigns P.initOrder.toList) = "cut".toList :: rest) (h1 : P.laysLater = false) (h2 : P.bearsReflect = false) (h3 : P.doorFits [] = true) : P.mayEnter = true := by
  have e : stripLifts liftWords ("cut".toList :: rest) = ([], "cut".toList :: rest) := by kernel_rfl
  unfold Program.mayEnter
  rw [h]
  dsimp only
  rw [e, h1, h2, h3]
  simp
def ioChars : List Char := [104, 97, 114, 110, 101, 115, 115, 32, 51, 97, 55, 102, 55, 49, 99, 49, 100, 52, 53, 56, 50, 101, 100, 51, 57, 51, 56, 52, 100, 102, 53, 56, 98, 51, 97, 101, 51, 50, 55, 52, 55, 97, 49, 98, 55, 102, 56, 52, 98, 55, 53, 97, 48, 100, 100, 98, 99, 51, 52, 56, 49, 50, 97, 97, 56, 52, 100, 100, 57, 49, 48, 97, 32, 99, 117, 116, 32, 97, 116, 32, 102, 117, 108, 109, 97, 114, 47, 102, 117, 108, 109, 97, 114, 108, 97, 119, 46, 70, 99, 99, 83, 97, 121, 115, 32, 102, 117, 108, 109, 97, 114, 47, 102, 117, 108, 109, 97, 114, 108, 97, 119, 46, 70, 99, 99, 77, 97, 100, 101].map Char.ofNat
theorem io_is : Tryz.prog.initOrder = String.ofList ioChars := by kernel_rfl
theorem io_chars : Tryz.prog.initOrder.toList = ioChars := by rw [io_is, String.toList_ofList]
theorem in_words0 : (behindMainWord (wordsSigns ioChars)) = "cut".toList :: (behindMainWord (wordsSigns ioChars)).tail := by kernel_rfl
theorem in_words : behindMainWord (wordsSigns Tryz.prog.initOrder.toList) = "cut".toList :: (behindMainWord (wordsSigns ioChars)).tail := by rw [io_chars]; exact in_words0
theorem in_later : Tryz.prog.laysLater = false := by kernel_rfl
theorem in_reflect : Tryz.prog.bearsReflect = false := by kernel_rfl
theorem in_door : Tryz.prog.doorFits [] = true := by kernel_rfl
theorem headLifts_of (P : Program) (rest : List (List Char)) (h : behindMainWord (wordsSigns P.initOrder.toList) = "cut".toList :: rest) : P.headLifts = [] := by
  have e : stripLifts liftWords ("cut".toList :: rest) = ([], "cut".toList :: rest) := by kernel_rfl
  unfold Program.headLifts
  rw [h]
  dsimp only
  rw [e]
  simp
theorem liftsFinal_of (P : Program) (rest : List (List Char)) (h : behindMainWord (wordsSigns P.initOrder.toList) = "cut".toList :: rest) : P.liftsFinal = false := by
  unfold Program.liftsFinal
  rw [h, headLifts_of P rest h]
  have e : (("cut".toList :: rest).head? == some "carried".toList) = false := by kernel_rfl
  dsimp only
  rw [e]
  rfl
theorem make_of (P : Program) (rest : List (List Char)) (h : behindMainWord (wordsSigns P.initOrder.toList) = "cut".toList :: rest) : P.make = some .cut := by
  unfold Program.make
  rw [h]
  have e1 : ("cut".toList == "gc".toList) = false := by kernel_rfl
  have e2 : ("cut".toList == "spec".toList) = false := by kernel_rfl
  dsimp only
  rw [e1, e2]
  simp
theorem fr_lifts : Tryz.prog.liftsFinal = false := liftsFinal_of _ _ in_words
theorem fr_make : Tryz.prog.make = some .cut := make_of _ _ in_words
theorem fr_enter : Tryz.prog.mayEnter = true := mayEnter_of _ _ in_words in_later in_reflect in_door
end Go.Proofs.YtoakpnoajmngmaaGreatDoor
