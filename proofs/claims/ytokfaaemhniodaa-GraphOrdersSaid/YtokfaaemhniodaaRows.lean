/-
  No cell of these rows narrows 'for every input' (looked for: loops, veiled, ifaces, maps, wideKeys, modest, calm, conditions, laid).
  DERIVED. THE GIVEN ROWS OF THIS SEAT. 9 by the template 'for every input the law returns true; each argument reads behind the call as it read before'; 0 by the template 'total and deterministic' (their statements: YtokfaaemhniodaaTotals.lean).
  GIVEN WITH THE SEED: the statements are not yours to turn. If you find one false, say at which input.
  Laid BY PROGRAM, IN A SANDBOX (cutbox-rows.mjs): the forced cells as the released guide's own fill.sh prints them over the translation beaf2a58614fe0b3… (all of the seat's roots in one cut). By AI agents, Wed Nov 11 2026. No macro, syntax, notation, axiom, sorry.
-/
import Derived.Test.YtokfaaemhniodaaChecked
import GoSem.Claim
import GoSem.ClaimJoined
import GoSem.ClaimMapViews
import Derived.JoinedTies
import Derived.KernelRfl
namespace Go.Proofs.Ytokfaaemhniodaa
/- THE CELL 'sum', in the pinned program and in every row, IS THE sha256 OF THE DUMP (.gsa) THAT YtokfaaemhniodaaProg.lean LOADS. Nothing in Lean hashes anything: it is a label: what it is worth is what the hold of that sum in a sandbox is worth. -/
noncomputable def Try.pinned : Pinned := { name := "ytokfaaemhniodaa", sum := "beaf2a58614fe0b31afa97d754467d74070123d934a7e897fd022f606cc7dd8d", checked := Try.checked }
namespace Rows
def none {H : Type} : Left H := { results := [], args := [] }

/-- 'locksteplaw02.NumGoes': WHATEVER THE INPUT: true; the input reads as it did. -/
def numGoesSpec : ChangeSpec := { name := "numGoes", fn := fun _ => fun
  | [d1, d2, d3] => { results := [.lit (.bool true)], args := [d1, d2, d3] }
  | _ => none }
def numGoesRow : OpenClaim := { program := "ytokfaaemhniodaa", sum := "beaf2a58614fe0b31afa97d754467d74070123d934a7e897fd022f606cc7dd8d", func := "lockstep/locksteplaw02.NumGoes", spec := "numGoes", recurses := true, apart := false }
def NumGoesSaid : Prop := numGoesRow.holds Try.pinned (OpenSpec.ofChange numGoesSpec)

/-- ITS FALSE NEIGHBOUR: 'it returns false'. Refute it at one input. -/
def numGoesWrong : ChangeSpec := { name := "numGoes", fn := fun _ => fun
  | [d1, d2, d3] => { results := [.lit (.bool false)], args := [d1, d2, d3] }
  | _ => none }
def NumGoesWrongFalsely : Prop := numGoesRow.holds Try.pinned (OpenSpec.ofChange numGoesWrong)

/-- 'locksteplaw02.NumOrder': WHATEVER THE INPUT: true; the input reads as it did. -/
def numOrderSpec : ChangeSpec := { name := "numOrder", fn := fun _ => fun
  | [d1, d2] => { results := [.lit (.bool true)], args := [d1, d2] }
  | _ => none }
def numOrderRow : OpenClaim := { program := "ytokfaaemhniodaa", sum := "beaf2a58614fe0b31afa97d754467d74070123d934a7e897fd022f606cc7dd8d", func := "lockstep/locksteplaw02.NumOrder", spec := "numOrder", apart := false }
def NumOrderSaid : Prop := numOrderRow.holds Try.pinned (OpenSpec.ofChange numOrderSpec)

/-- ITS FALSE NEIGHBOUR: 'it returns false'. Refute it at one input. -/
def numOrderWrong : ChangeSpec := { name := "numOrder", fn := fun _ => fun
  | [d1, d2] => { results := [.lit (.bool false)], args := [d1, d2] }
  | _ => none }
def NumOrderWrongFalsely : Prop := numOrderRow.holds Try.pinned (OpenSpec.ofChange numOrderWrong)

/-- 'locksteplaw02.NumTwice': WHATEVER THE INPUT: true; the input reads as it did. -/
def numTwiceSpec : ChangeSpec := { name := "numTwice", fn := fun _ => fun
  | [d1, d2] => { results := [.lit (.bool true)], args := [d1, d2] }
  | _ => none }
def numTwiceRow : OpenClaim := { program := "ytokfaaemhniodaa", sum := "beaf2a58614fe0b31afa97d754467d74070123d934a7e897fd022f606cc7dd8d", func := "lockstep/locksteplaw02.NumTwice", spec := "numTwice", apart := false }
def NumTwiceSaid : Prop := numTwiceRow.holds Try.pinned (OpenSpec.ofChange numTwiceSpec)

/-- ITS FALSE NEIGHBOUR: 'it returns false'. Refute it at one input. -/
def numTwiceWrong : ChangeSpec := { name := "numTwice", fn := fun _ => fun
  | [d1, d2] => { results := [.lit (.bool false)], args := [d1, d2] }
  | _ => none }
def NumTwiceWrongFalsely : Prop := numTwiceRow.holds Try.pinned (OpenSpec.ofChange numTwiceWrong)

/-- 'locksteplaw02.NumRows': WHATEVER THE INPUT: true; the input reads as it did. -/
def numRowsSpec : ChangeSpec := { name := "numRows", fn := fun _ => fun
  | [d1, d2] => { results := [.lit (.bool true)], args := [d1, d2] }
  | _ => none }
def numRowsRow : OpenClaim := { program := "ytokfaaemhniodaa", sum := "beaf2a58614fe0b31afa97d754467d74070123d934a7e897fd022f606cc7dd8d", func := "lockstep/locksteplaw02.NumRows", spec := "numRows", recurses := true, apart := false }
def NumRowsSaid : Prop := numRowsRow.holds Try.pinned (OpenSpec.ofChange numRowsSpec)

/-- ITS FALSE NEIGHBOUR: 'it returns false'. Refute it at one input. -/
def numRowsWrong : ChangeSpec := { name := "numRows", fn := fun _ => fun
  | [d1, d2] => { results := [.lit (.bool false)], args := [d1, d2] }
  | _ => none }
def NumRowsWrongFalsely : Prop := numRowsRow.holds Try.pinned (OpenSpec.ofChange numRowsWrong)

/-- 'locksteplaw02.NumStream': WHATEVER THE INPUT: true; the input reads as it did. -/
def numStreamSpec : ChangeSpec := { name := "numStream", fn := fun _ => fun
  | [d] => { results := [.lit (.bool true)], args := [d] }
  | _ => none }
def numStreamRow : OpenClaim := { program := "ytokfaaemhniodaa", sum := "beaf2a58614fe0b31afa97d754467d74070123d934a7e897fd022f606cc7dd8d", func := "lockstep/locksteplaw02.NumStream", spec := "numStream", apart := false }
def NumStreamSaid : Prop := numStreamRow.holds Try.pinned (OpenSpec.ofChange numStreamSpec)

/-- ITS FALSE NEIGHBOUR: 'it returns false'. Refute it at one input. -/
def numStreamWrong : ChangeSpec := { name := "numStream", fn := fun _ => fun
  | [d] => { results := [.lit (.bool false)], args := [d] }
  | _ => none }
def NumStreamWrongFalsely : Prop := numStreamRow.holds Try.pinned (OpenSpec.ofChange numStreamWrong)

/-- 'locksteplaw06.GraphReaches': WHATEVER THE INPUT: true; the input reads as it did. -/
def graphReachesSpec : ChangeSpec := { name := "graphReaches", fn := fun _ => fun
  | [d1, d2] => { results := [.lit (.bool true)], args := [d1, d2] }
  | _ => none }
def graphReachesRow : OpenClaim := { program := "ytokfaaemhniodaa", sum := "beaf2a58614fe0b31afa97d754467d74070123d934a7e897fd022f606cc7dd8d", func := "lockstep/locksteplaw06.GraphReaches", spec := "graphReaches", unfollowed := true, recurses := true, apart := false }
def GraphReachesSaid : Prop := graphReachesRow.holds Try.pinned (OpenSpec.ofChange graphReachesSpec)

/-- ITS FALSE NEIGHBOUR: 'it returns false'. Refute it at one input. -/
def graphReachesWrong : ChangeSpec := { name := "graphReaches", fn := fun _ => fun
  | [d1, d2] => { results := [.lit (.bool false)], args := [d1, d2] }
  | _ => none }
def GraphReachesWrongFalsely : Prop := graphReachesRow.holds Try.pinned (OpenSpec.ofChange graphReachesWrong)

/-- 'locksteplaw06.GraphLine': WHATEVER THE INPUT: true; the input reads as it did. -/
def graphLineSpec : ChangeSpec := { name := "graphLine", fn := fun _ => fun
  | [d1, d2, d3] => { results := [.lit (.bool true)], args := [d1, d2, d3] }
  | _ => none }
def graphLineRow : OpenClaim := { program := "ytokfaaemhniodaa", sum := "beaf2a58614fe0b31afa97d754467d74070123d934a7e897fd022f606cc7dd8d", func := "lockstep/locksteplaw06.GraphLine", spec := "graphLine", unfollowed := true, recurses := true, apart := false }
def GraphLineSaid : Prop := graphLineRow.holds Try.pinned (OpenSpec.ofChange graphLineSpec)

/-- ITS FALSE NEIGHBOUR: 'it returns false'. Refute it at one input. -/
def graphLineWrong : ChangeSpec := { name := "graphLine", fn := fun _ => fun
  | [d1, d2, d3] => { results := [.lit (.bool false)], args := [d1, d2, d3] }
  | _ => none }
def GraphLineWrongFalsely : Prop := graphLineRow.holds Try.pinned (OpenSpec.ofChange graphLineWrong)

/-- 'locksteplaw06.GraphOrders': WHATEVER THE INPUT: true; the input reads as it did. -/
def graphOrdersSpec : ChangeSpec := { name := "graphOrders", fn := fun _ => fun
  | [d1, d2, d3] => { results := [.lit (.bool true)], args := [d1, d2, d3] }
  | _ => none }
def graphOrdersRow : OpenClaim := { program := "ytokfaaemhniodaa", sum := "beaf2a58614fe0b31afa97d754467d74070123d934a7e897fd022f606cc7dd8d", func := "lockstep/locksteplaw06.GraphOrders", spec := "graphOrders", unfollowed := true, recurses := true, apart := false }
def GraphOrdersSaid : Prop := graphOrdersRow.holds Try.pinned (OpenSpec.ofChange graphOrdersSpec)

/-- ITS FALSE NEIGHBOUR: 'it returns false'. Refute it at one input. -/
def graphOrdersWrong : ChangeSpec := { name := "graphOrders", fn := fun _ => fun
  | [d1, d2, d3] => { results := [.lit (.bool false)], args := [d1, d2, d3] }
  | _ => none }
def GraphOrdersWrongFalsely : Prop := graphOrdersRow.holds Try.pinned (OpenSpec.ofChange graphOrdersWrong)

/-- 'locksteplaw06.GraphTurned': WHATEVER THE INPUT: true; the input reads as it did. -/
def graphTurnedSpec : ChangeSpec := { name := "graphTurned", fn := fun _ => fun
  | [d] => { results := [.lit (.bool true)], args := [d] }
  | _ => none }
def graphTurnedRow : OpenClaim := { program := "ytokfaaemhniodaa", sum := "beaf2a58614fe0b31afa97d754467d74070123d934a7e897fd022f606cc7dd8d", func := "lockstep/locksteplaw06.GraphTurned", spec := "graphTurned", unfollowed := true, recurses := true, apart := false }
def GraphTurnedSaid : Prop := graphTurnedRow.holds Try.pinned (OpenSpec.ofChange graphTurnedSpec)

/-- ITS FALSE NEIGHBOUR: 'it returns false'. Refute it at one input. -/
def graphTurnedWrong : ChangeSpec := { name := "graphTurned", fn := fun _ => fun
  | [d] => { results := [.lit (.bool false)], args := [d] }
  | _ => none }
def GraphTurnedWrongFalsely : Prop := graphTurnedRow.holds Try.pinned (OpenSpec.ofChange graphTurnedWrong)

/- THE SECOND FORM. 'bulk': how many values and letters a reading holds, each counted each time it is reached (what is shared counts as often as it is met; a slice's spare places count too). A statement '..UptoSaid' is the law's where the arguments, and the package variables that the reading takes, are together of bulk at most 1048576: NARROWER than '..Said'. Prove '..Said' where nothing that the law and all that it calls make is longer than what came in: it says more and counts as full. Else prove '..UptoSaid'. A law counts once. -/
mutual
def uptoBulk {H : Type} : DataW H → Nat
  | .lit (.string bytes) => bytes.length + 1
  | .lit _ => 1
  | .nil => 1
  | .ptr d => uptoBulk d + 1
  | .slice elems spare => uptoBulkAll elems + uptoBulkAll spare + 1
  | .agg parts => uptoBulkAll parts + 1
  | .iface _ d => uptoBulk d + 1
  | .map entries => uptoBulkEntries entries + 1
  | .held _ => 1
def uptoBulkAll {H : Type} : List (DataW H) → Nat
  | [] => 0
  | d :: r => uptoBulk d + uptoBulkAll r
def uptoBulkEntries {H : Type} : List (Lit × DataW H) → Nat
  | [] => 0
  | x :: r => uptoBulkEntry x + uptoBulkEntries r
def uptoBulkEntry {H : Type} : Lit × DataW H → Nat
  | (.string bytes, d) => bytes.length + uptoBulk d + 1
  | (_, d) => uptoBulk d + 1
 end
def uptoSmall : (H : Type) → List (DataW H) → Bool := fun _ ds => decide (uptoBulkAll ds ≤ 1048576)
def OpenSpec.upto (s : _root_.Go.ChangeSpec) : _root_.Go.OpenSpec := { _root_.Go.OpenSpec.ofChange s with cond := some uptoSmall }

/-- 'locksteplaw02.NumGoes', WHERE WHAT IT READS IS OF BULK AT MOST 1048576: true; the input reads as it did. -/
def numGoesUptoRow : OpenClaim := { program := "ytokfaaemhniodaa", sum := "beaf2a58614fe0b31afa97d754467d74070123d934a7e897fd022f606cc7dd8d", func := "lockstep/locksteplaw02.NumGoes", spec := "numGoes", recurses := true, apart := false, narrowed := true }
def NumGoesUptoSaid : Prop := numGoesUptoRow.holds Try.pinned (OpenSpec.upto numGoesSpec)

/-- 'locksteplaw02.NumOrder', WHERE WHAT IT READS IS OF BULK AT MOST 1048576: true; the input reads as it did. -/
def numOrderUptoRow : OpenClaim := { program := "ytokfaaemhniodaa", sum := "beaf2a58614fe0b31afa97d754467d74070123d934a7e897fd022f606cc7dd8d", func := "lockstep/locksteplaw02.NumOrder", spec := "numOrder", apart := false, narrowed := true }
def NumOrderUptoSaid : Prop := numOrderUptoRow.holds Try.pinned (OpenSpec.upto numOrderSpec)

/-- 'locksteplaw02.NumTwice', WHERE WHAT IT READS IS OF BULK AT MOST 1048576: true; the input reads as it did. -/
def numTwiceUptoRow : OpenClaim := { program := "ytokfaaemhniodaa", sum := "beaf2a58614fe0b31afa97d754467d74070123d934a7e897fd022f606cc7dd8d", func := "lockstep/locksteplaw02.NumTwice", spec := "numTwice", apart := false, narrowed := true }
def NumTwiceUptoSaid : Prop := numTwiceUptoRow.holds Try.pinned (OpenSpec.upto numTwiceSpec)

/-- 'locksteplaw02.NumRows', WHERE WHAT IT READS IS OF BULK AT MOST 1048576: true; the input reads as it did. -/
def numRowsUptoRow : OpenClaim := { program := "ytokfaaemhniodaa", sum := "beaf2a58614fe0b31afa97d754467d74070123d934a7e897fd022f606cc7dd8d", func := "lockstep/locksteplaw02.NumRows", spec := "numRows", recurses := true, apart := false, narrowed := true }
def NumRowsUptoSaid : Prop := numRowsUptoRow.holds Try.pinned (OpenSpec.upto numRowsSpec)

/-- 'locksteplaw02.NumStream', WHERE WHAT IT READS IS OF BULK AT MOST 1048576: true; the input reads as it did. -/
def numStreamUptoRow : OpenClaim := { program := "ytokfaaemhniodaa", sum := "beaf2a58614fe0b31afa97d754467d74070123d934a7e897fd022f606cc7dd8d", func := "lockstep/locksteplaw02.NumStream", spec := "numStream", apart := false, narrowed := true }
def NumStreamUptoSaid : Prop := numStreamUptoRow.holds Try.pinned (OpenSpec.upto numStreamSpec)

/-- 'locksteplaw06.GraphReaches', WHERE WHAT IT READS IS OF BULK AT MOST 1048576: true; the input reads as it did. -/
def graphReachesUptoRow : OpenClaim := { program := "ytokfaaemhniodaa", sum := "beaf2a58614fe0b31afa97d754467d74070123d934a7e897fd022f606cc7dd8d", func := "lockstep/locksteplaw06.GraphReaches", spec := "graphReaches", unfollowed := true, recurses := true, apart := false, narrowed := true }
def GraphReachesUptoSaid : Prop := graphReachesUptoRow.holds Try.pinned (OpenSpec.upto graphReachesSpec)

/-- 'locksteplaw06.GraphLine', WHERE WHAT IT READS IS OF BULK AT MOST 1048576: true; the input reads as it did. -/
def graphLineUptoRow : OpenClaim := { program := "ytokfaaemhniodaa", sum := "beaf2a58614fe0b31afa97d754467d74070123d934a7e897fd022f606cc7dd8d", func := "lockstep/locksteplaw06.GraphLine", spec := "graphLine", unfollowed := true, recurses := true, apart := false, narrowed := true }
def GraphLineUptoSaid : Prop := graphLineUptoRow.holds Try.pinned (OpenSpec.upto graphLineSpec)

/-- 'locksteplaw06.GraphOrders', WHERE WHAT IT READS IS OF BULK AT MOST 1048576: true; the input reads as it did. -/
def graphOrdersUptoRow : OpenClaim := { program := "ytokfaaemhniodaa", sum := "beaf2a58614fe0b31afa97d754467d74070123d934a7e897fd022f606cc7dd8d", func := "lockstep/locksteplaw06.GraphOrders", spec := "graphOrders", unfollowed := true, recurses := true, apart := false, narrowed := true }
def GraphOrdersUptoSaid : Prop := graphOrdersUptoRow.holds Try.pinned (OpenSpec.upto graphOrdersSpec)

/-- 'locksteplaw06.GraphTurned', WHERE WHAT IT READS IS OF BULK AT MOST 1048576: true; the input reads as it did. -/
def graphTurnedUptoRow : OpenClaim := { program := "ytokfaaemhniodaa", sum := "beaf2a58614fe0b31afa97d754467d74070123d934a7e897fd022f606cc7dd8d", func := "lockstep/locksteplaw06.GraphTurned", spec := "graphTurned", unfollowed := true, recurses := true, apart := false, narrowed := true }
def GraphTurnedUptoSaid : Prop := graphTurnedUptoRow.holds Try.pinned (OpenSpec.upto graphTurnedSpec)

end Rows
end Go.Proofs.Ytokfaaemhniodaa
