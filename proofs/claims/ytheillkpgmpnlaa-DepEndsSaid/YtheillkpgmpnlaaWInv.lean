/- Words of the kit's tool, those alone that this claim names (wip/tools/trim.py). Conditions: each theorem's own. -/
import Derived.Test.YtheillkpgmpnlaaWTab
namespace Go.Proofs.YtheillkpgmpnlaaW.PrintLast
/-- Number i is listed too. -/
def up (b : Nat → Bool) (i : Nat) : Nat → Bool := fun j => if j = i then true else b j
end Go.Proofs.YtheillkpgmpnlaaW.PrintLast
