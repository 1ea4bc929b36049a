/-
  The head word of the translation, spelt out: may the claim's function be entered at once. No condition.
-/
import Derived.Test.YtdfpenjhpemokaaRows
import Derived.KernelRfl
namespace Go.Proofs.Ytdfpenjhpemokaa
theorem mayEnter_of (P : Program) (rest : List (List Char)) (h : behindMainWord (wordsSigns P.initOrder.toList) = "cut".toList :: rest) (h1 : P.laysLater = false) (h2 : P.bearsReflect = false) (h3 : P.doorFits [] = true) : P.mayEnter = true := by
  have e : stripLifts liftWords ("cut".toList :: rest) = ([], "cut".toList :: rest) := by kernel_rfl
  unfold Program.mayEnter
  rw [h]
  dsimp only
  rw [e, h1, h2, h3]
  simp
def ioChars : List Char := [104, 97, 114, 110, 101, 115, 115, 32, 102, 102, 48, 52, 53, 100, 57, 101, 53, 101, 54, 57, 57, 55, 52, 49, 100, 102, 55, 49, 48, 50, 102, 102, 53, 100, 51, 50, 52, 53, 98, 52, 56, 98, 55, 51, 98, 53, 57, 102, 100, 55, 54, 97, 56, 55, 51, 48, 102, 49, 56, 51, 99, 100, 54, 97, 53, 100, 48, 97, 51, 52, 50, 50, 32, 99, 117, 116, 32, 97, 116, 32, 102, 117, 108, 109, 97, 114, 47, 102, 117, 108, 109, 97, 114, 108, 97, 119, 46, 87, 111, 114, 100, 82, 101, 97, 100, 115, 32, 102, 117, 108, 109, 97, 114, 47, 102, 117, 108, 109, 97, 114, 108, 97, 119, 46, 87, 111, 114, 100, 83, 97, 121, 115, 32, 102, 117, 108, 109, 97, 114, 47, 102, 117, 108, 109, 97, 114, 108, 97, 119, 46, 70, 105, 120, 83, 112, 97, 110, 115, 32, 102, 117, 108, 109, 97, 114, 47, 102, 117, 108, 109, 97, 114, 108, 97, 119, 46, 65, 99, 116, 83, 97, 121, 115, 32, 102, 117, 108, 109, 97, 114, 47, 102, 117, 108, 109, 97, 114, 108, 97, 119, 46, 71, 117, 97, 114, 100, 66, 111, 117, 110, 100, 115, 32, 102, 117, 108, 109, 97, 114, 47, 102, 117, 108, 109, 97, 114, 108, 97, 119, 46, 71, 117, 97, 114, 100, 77, 97, 100, 101, 32, 102, 117, 108, 109, 97, 114, 47, 102, 117, 108, 109, 97, 114, 116, 111, 112, 46, 84, 111, 112, 70, 105, 120, 32, 102, 117, 108, 109, 97, 114, 47, 102, 117, 108, 109, 97, 114, 108, 97, 119, 46, 86, 111, 116, 101, 83, 97, 121, 115, 32, 102, 117, 108, 109, 97, 114, 47, 102, 117, 108, 109, 97, 114, 108, 97, 119, 46, 86, 111, 116, 101, 82, 117, 110, 115, 32, 102, 117, 108, 109, 97, 114, 47, 102, 117, 108, 109, 97, 114, 108, 97, 119, 46, 76, 105, 110, 101, 83, 97, 121, 115, 32, 102, 117, 108, 109, 97, 114, 47, 102, 117, 108, 109, 97, 114, 108, 97, 119, 46, 71, 114, 105, 100, 83, 97, 121, 115, 32, 102, 117, 108, 109, 97, 114, 47, 102, 117, 108, 109, 97, 114, 116, 111, 112, 46, 84, 111, 112, 87, 111, 114, 100, 32, 102, 117, 108, 109, 97, 114, 47, 102, 117, 108, 109, 97, 114, 108, 97, 119, 46, 83, 104, 97, 114, 101, 83, 97, 121, 115, 32, 102, 117, 108, 109, 97, 114, 47, 102, 117, 108, 109, 97, 114, 108, 97, 119, 46, 83, 104, 97, 114, 101, 77, 97, 100, 101, 32, 102, 117, 108, 109, 97, 114, 47, 102, 117, 108, 109, 97, 114, 108, 97, 119, 46, 76, 105, 110, 101, 79, 118, 101, 114, 32, 102, 117, 108, 109, 97, 114, 47, 102, 117, 108, 109, 97, 114, 108, 97, 119, 46, 67, 114, 97, 102, 116, 83, 97, 121, 115, 32, 102, 117, 108, 109, 97, 114, 47, 102, 117, 108, 109, 97, 114, 108, 97, 119, 46, 72, 111, 108, 100, 83, 97, 121, 115, 32, 102, 117, 108, 109, 97, 114, 47, 102, 117, 108, 109, 97, 114, 116, 111, 112, 46, 84, 111, 112, 83, 101, 114, 118, 111, 32, 102, 117, 108, 109, 97, 114, 47, 102, 117, 108, 109, 97, 114, 108, 97, 119, 46, 72, 111, 108, 100, 77, 97, 100, 101, 32, 102, 117, 108, 109, 97, 114, 47, 102, 117, 108, 109, 97, 114, 108, 97, 119, 46, 87, 111, 114, 100, 71, 97, 116, 104, 101, 114, 115, 32, 102, 117, 108, 109, 97, 114, 47, 102, 117, 108, 109, 97, 114, 116, 111, 112, 46, 84, 111, 112, 71, 117, 97, 114, 100, 32, 102, 117, 108, 109, 97, 114, 47, 102, 117, 108, 109, 97, 114, 116, 111, 112, 46, 84, 111, 112, 71, 117, 97, 114, 100, 77, 97, 100, 101, 32, 102, 117, 108, 109, 97, 114, 47, 102, 117, 108, 109, 97, 114, 116, 111, 112, 46, 84, 111, 112, 70, 114, 101, 101, 32, 102, 117, 108, 109, 97, 114, 47, 102, 117, 108, 109, 97, 114, 116, 111, 112, 46, 84, 111, 112, 86, 111, 116, 101, 32, 102, 117, 108, 109, 97, 114, 47, 102, 117, 108, 109, 97, 114, 116, 111, 112, 46, 84, 111, 112, 76, 105, 110, 101, 32, 102, 117, 108, 109, 97, 114, 47, 102, 117, 108, 109, 97, 114, 116, 111, 112, 46, 84, 111, 112, 83, 104, 97, 114, 101, 32, 102, 117, 108, 109, 97, 114, 47, 102, 117, 108, 109, 97, 114, 116, 111, 112, 46, 84, 111, 112, 72, 111, 108, 100].map Char.ofNat
theorem io_is : Try.prog.initOrder = String.ofList ioChars := by kernel_rfl
theorem io_chars : Try.prog.initOrder.toList = ioChars := by rw [io_is, String.toList_ofList]
theorem in_words0 : (behindMainWord (wordsSigns ioChars)) = "cut".toList :: (behindMainWord (wordsSigns ioChars)).tail := by kernel_rfl
theorem in_words : behindMainWord (wordsSigns Try.prog.initOrder.toList) = "cut".toList :: (behindMainWord (wordsSigns ioChars)).tail := by rw [io_chars]; exact in_words0
theorem in_later : Try.prog.laysLater = false := by kernel_rfl
theorem in_reflect : Try.prog.bearsReflect = false := by kernel_rfl
theorem in_door : Try.prog.doorFits [] = true := by kernel_rfl
theorem headLifts_of (P : Program) (rest : List (List Char)) (h : behindMainWord (wordsSigns P.initOrder.toList) = "cut".toList :: rest) : P.headLifts = [] := by
  have e : stripLifts liftWords ("cut".toList :: rest) = ([], "cut".toList :: rest) := by kernel_rfl
  unfold Program.headLifts
  rw [h]
  dsimp only
  rw [e]
  simp
theorem liftsFinal_of (P : Program) (rest : List (List Char)) (h : behindMainWord (wordsSigns P.initOrder.toList) = "cut".toList :: rest) : P.liftsFinal = false := by
  unfold Program.liftsFinal
  rw [h, headLifts_of P rest h]
  have e : (("cut".toList :: rest).head? == some "carried".toList) = false := by kernel_rfl
  dsimp only
  rw [e]
  rfl
theorem make_of (P : Program) (rest : List (List Char)) (h : behindMainWord (wordsSigns P.initOrder.toList) = "cut".toList :: rest) : P.make = some .cut := by
  unfold Program.make
  rw [h]
  have e1 : ("cut".toList == "gc".toList) = false := by kernel_rfl
  have e2 : ("cut".toList == "spec".toList) = false := by kernel_rfl
  dsimp only
  rw [e1, e2]
  simp
theorem fr_lifts : Try.prog.liftsFinal = false := liftsFinal_of _ _ in_words
theorem fr_make : Try.prog.make = some .cut := make_of _ _ in_words
theorem fr_enter : Try.prog.mayEnter = true := mayEnter_of _ _ in_words in_later in_reflect in_door
end Go.Proofs.Ytdfpenjhpemokaa
