/-
  The head word of the translation, spelt out: may the claim's function be entered at once. No condition.
-/
import Derived.Test.YtkhdkbnidbeokaaDoorRows
import Derived.KernelRfl
namespace Go.Proofs.YtkhdkbnidbeokaaDoor
theorem mayEnter_of (P : Program) (rest : List (List Char)) (h : behindMainWord (wordsSigns P.initOrder.toList) = "cut".toList :: rest) (h1 : P.laysLater = false) (h2 : P.bearsReflect = false) (h3 : P.doorFits [] = true) : P.mayEnter = true := by
  have e : stripLifts liftWords ("cut".toList :: rest) = ([], "cut".toList :: rest) := by kernel_rfl
  unfold Program.mayEnter
  rw [h]
  dsimp only
  rw [e, h1, h2, h3]
  simp
def ioChars : List Char := [104, 97, 114, 110, 101, 115, 115, 32, 99, 49, 101, 48, 55, 52, 50, 98, 57, 50, 49, 101, 53, 99, 98, 57, 49, 102, 54, 99, 55, 52, 100, 97, 98, 100, 98, 57, 55, 48, 48, 51, 56, 52, 101, 52, 54, 55, 102, 55, 50, 51, 102, 99, 97, 50, 97, 50, 97, 49, 50, 50, 50, 53, 51, 54, 51, 102, 48, 57, 98, 54, 49, 51, 32, 99, 117, 116, 32, 97, 116, 32, 102, 117, 108, 109, 97, 114, 47, 102, 117, 108, 109, 97, 114, 108, 97, 119, 46, 78, 97, 109, 101, 115].map Char.ofNat
theorem io_is : Tryd.prog.initOrder = String.ofList ioChars := by kernel_rfl
theorem io_chars : Tryd.prog.initOrder.toList = ioChars := by rw [io_is, String.toList_ofList]
theorem in_words0 : (behindMainWord (wordsSigns ioChars)) = "cut".toList :: (behindMainWord (wordsSigns ioChars)).tail := by kernel_rfl
theorem in_words : behindMainWord (wordsSigns Tryd.prog.initOrder.toList) = "cut".toList :: (behindMainWord (wordsSigns ioChars)).tail := by rw [io_chars]; exact in_words0
theorem in_later : Tryd.prog.laysLater = false := by kernel_rfl
theorem in_reflect : Tryd.prog.bearsReflect = false := by kernel_rfl
theorem in_door : Tryd.prog.doorFits [] = true := by kernel_rfl
theorem headLifts_of (P : Program) (rest : List (List Char)) (h : behindMainWord (wordsSigns P.initOrder.toList) = "cut".toList :: rest) : P.headLifts = [] := by
  have e : stripLifts liftWords ("cut".toList :: rest) = ([], "cut".toList :: rest) := by kernel_rfl
  unfold Program.headLifts
  rw [h]
  dsimp only
  rw [e]
  simp
theorem liftsFinal_of (P : Program) (rest : List (List Char)) (h : behindMainWord (wordsSigns P.initOrder.toList) = "cut".toList :: rest) : P.liftsFinal = false := by
  unfold Program.liftsFinal
  rw [h, headLifts_of P rest h]
  have e : (("cut".toList :: rest).head? == some "carried".toList) = false := by kernel_rfl
  dsimp only
  rw [e]
  rfl
theorem make_of (P : Program) (rest : List (List Char)) (h : behindMainWord (wordsSigns P.initOrder.toList) = "cut".toList :: rest) : P.make = some .cut := by
  unfold Program.make
  rw [h]
  have e1 : ("cut".toList == "gc".toList) = false := by kernel_rfl
  have e2 : ("cut".toList == "spec".toList) = false := by kernel_rfl
  dsimp only
  rw [e1, e2]
  simp
theorem fr_lifts : Tryd.prog.liftsFinal = false := liftsFinal_of _ _ in_words
theorem fr_make : Tryd.prog.make = some .cut := make_of _ _ in_words
theorem fr_enter : Tryd.prog.mayEnter = true := mayEnter_of _ _ in_words in_later in_reflect in_door
end Go.Proofs.YtkhdkbnidbeokaaDoor
