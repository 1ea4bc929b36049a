/-
  Values of structs and arrays, nested, of ints and booleans: their cells, one by one.
-/
import Derived.Test.YtdfpenjhpemokaaOpen2
import Derived.OpenShut
set_option linter.unusedVariables false
set_option linter.unusedSimpArgs false
namespace Go.Proofs.Ytdfpenjhpemokaa
open Go.ChangeShapes Go.WideShapes Go.ChangeAt Go.RowKit Go.Deep

def repK : Nat → List Bool → List Bool
  | 0, _ => []
  | m + 1, ks => ks ++ repK m ks
def flatFs (P : Program) (g : TypeId → Option (List Bool)) : List Field → Nat → Option (List Bool)
  | [], _ => some []
  | f :: l, acc => match g f.type, flatFs P g l (acc + P.cellsOf f.type) with
    | some ks, some r => if f.offset = acc ∧ P.cellsOf f.type = ks.length then some (ks ++ r) else none
    | _, _ => none
def flatK (P : Program) : Nat → TypeId → Option (List Bool)
  | 0, _ => none
  | n + 1, t => match P.underlying t with
    | some (.int .i64) => some [true]
    | some .bool => some [false]
    | some (.struct fs) => flatFs P (flatK P n) fs.toList 0
    | some (.array m e) => match flatK P n e with
      | some ks => if P.cellsOf e = ks.length then some (repK m ks) else none
      | none => none
    | _ => none
section
variable {H : Type} {enc : TypeId × Value → H} {P : Program} {w : World} {base : Nat} {spare : Nat → Bool} {held : Bool}
end
end Go.Proofs.Ytdfpenjhpemokaa
