/-
  What the functions of package fix return, and those of the reference that answer for them: each returns its plain function's number.
-/
import Derived.Test.YtdfpenjhpemokaaProg
import Derived.Test.YtdfpenjhpemokaaPl
import Derived.WalkKit
import Derived.WalkSpells
import Derived.WalkLawsBesides
set_option linter.unusedVariables false
set_option linter.unusedSimpArgs false
namespace Go.Proofs.Ytdfpenjhpemokaa
open Go.RowKit

def errV (k : Int) : Value := if k = 0 then .nilIface else .iface 23 (.int .i64 k)
theorem errV_0 : errV 0 = .nilIface := rfl
theorem errV_ne {k : Int} (h : k ≠ 0) : errV k = .iface 23 (.int .i64 k) := if_neg h

end Go.Proofs.Ytdfpenjhpemokaa
