/-
  No cell of these rows narrows 'for every input' (looked for: loops, veiled, ifaces, maps, wideKeys, modest, calm, conditions, laid).
  DERIVED. THE GIVEN ROWS OF THIS SEAT. 6 by the template 'for every input the law returns true; each argument reads behind the call as it read before'; 0 by the template 'total and deterministic' (their statements: YtblhphjdjpodcaaTotals.lean).
  GIVEN WITH THE SEED: the statements are not yours to turn. If you find one false, say at which input.
  Laid BY PROGRAM, IN A SANDBOX (cutbox-rows.mjs): the forced cells as the released guide's own fill.sh prints them over the translation 4b28ab44c75d3452… (all of the seat's roots in one cut). By AI agents, Wed Nov 11 2026. No macro, syntax, notation, axiom, sorry.
-/
import Derived.Test.YtblhphjdjpodcaaChecked
import GoSem.Claim
import GoSem.ClaimJoined
import GoSem.ClaimMapViews
import Derived.JoinedTies
import Derived.KernelRfl
namespace Go.Proofs.Ytblhphjdjpodcaa
/- THE CELL 'sum', in the pinned program and in every row, IS THE sha256 OF THE DUMP (.gsa) THAT YtblhphjdjpodcaaProg.lean LOADS. Nothing in Lean hashes anything: it is a label: what it is worth is what the hold of that sum in a sandbox is worth. -/
noncomputable def Try.pinned : Pinned := { name := "ytblhphjdjpodcaa", sum := "4b28ab44c75d3452f74e1bea6e17738102f0fdc16aaff78802905d3ac2c74f23", checked := Try.checked }
namespace Rows
def none {H : Type} : Left H := { results := [], args := [] }

/-- 'locksteplaw03.KindShapes': WHATEVER THE INPUT: true; the input reads as it did. -/
def kindShapesSpec : ChangeSpec := { name := "kindShapes", fn := fun _ => fun
  | [d1, d2] => { results := [.lit (.bool true)], args := [d1, d2] }
  | _ => none }
def kindShapesRow : OpenClaim := { program := "ytblhphjdjpodcaa", sum := "4b28ab44c75d3452f74e1bea6e17738102f0fdc16aaff78802905d3ac2c74f23", func := "lockstep/locksteplaw03.KindShapes", spec := "kindShapes", unfollowed := true, recurses := true, apart := false }
def KindShapesSaid : Prop := kindShapesRow.holds Try.pinned (OpenSpec.ofChange kindShapesSpec)

/-- ITS FALSE NEIGHBOUR: 'it returns false'. Refute it at one input. -/
def kindShapesWrong : ChangeSpec := { name := "kindShapes", fn := fun _ => fun
  | [d1, d2] => { results := [.lit (.bool false)], args := [d1, d2] }
  | _ => none }
def KindShapesWrongFalsely : Prop := kindShapesRow.holds Try.pinned (OpenSpec.ofChange kindShapesWrong)

/-- 'locksteplaw03.KindArgs': WHATEVER THE INPUT: true; the input reads as it did. -/
def kindArgsSpec : ChangeSpec := { name := "kindArgs", fn := fun _ => fun
  | [d1, d2] => { results := [.lit (.bool true)], args := [d1, d2] }
  | _ => none }
def kindArgsRow : OpenClaim := { program := "ytblhphjdjpodcaa", sum := "4b28ab44c75d3452f74e1bea6e17738102f0fdc16aaff78802905d3ac2c74f23", func := "lockstep/locksteplaw03.KindArgs", spec := "kindArgs", unfollowed := true, recurses := true, apart := false }
def KindArgsSaid : Prop := kindArgsRow.holds Try.pinned (OpenSpec.ofChange kindArgsSpec)

/-- ITS FALSE NEIGHBOUR: 'it returns false'. Refute it at one input. -/
def kindArgsWrong : ChangeSpec := { name := "kindArgs", fn := fun _ => fun
  | [d1, d2] => { results := [.lit (.bool false)], args := [d1, d2] }
  | _ => none }
def KindArgsWrongFalsely : Prop := kindArgsRow.holds Try.pinned (OpenSpec.ofChange kindArgsWrong)

/-- 'locksteplaw03.KindLooks': WHATEVER THE INPUT: true; the input reads as it did. -/
def kindLooksSpec : ChangeSpec := { name := "kindLooks", fn := fun _ => fun
  | [d] => { results := [.lit (.bool true)], args := [d] }
  | _ => none }
def kindLooksRow : OpenClaim := { program := "ytblhphjdjpodcaa", sum := "4b28ab44c75d3452f74e1bea6e17738102f0fdc16aaff78802905d3ac2c74f23", func := "lockstep/locksteplaw03.KindLooks", spec := "kindLooks", unfollowed := true, recurses := true, apart := false }
def KindLooksSaid : Prop := kindLooksRow.holds Try.pinned (OpenSpec.ofChange kindLooksSpec)

/-- ITS FALSE NEIGHBOUR: 'it returns false'. Refute it at one input. -/
def kindLooksWrong : ChangeSpec := { name := "kindLooks", fn := fun _ => fun
  | [d] => { results := [.lit (.bool false)], args := [d] }
  | _ => none }
def KindLooksWrongFalsely : Prop := kindLooksRow.holds Try.pinned (OpenSpec.ofChange kindLooksWrong)

/-- 'locksteplaw03.KindLanes': WHATEVER THE INPUT: true; the input reads as it did. -/
def kindLanesSpec : ChangeSpec := { name := "kindLanes", fn := fun _ => fun
  | [d] => { results := [.lit (.bool true)], args := [d] }
  | _ => none }
def kindLanesRow : OpenClaim := { program := "ytblhphjdjpodcaa", sum := "4b28ab44c75d3452f74e1bea6e17738102f0fdc16aaff78802905d3ac2c74f23", func := "lockstep/locksteplaw03.KindLanes", spec := "kindLanes", unfollowed := true, recurses := true, apart := false }
def KindLanesSaid : Prop := kindLanesRow.holds Try.pinned (OpenSpec.ofChange kindLanesSpec)

/-- ITS FALSE NEIGHBOUR: 'it returns false'. Refute it at one input. -/
def kindLanesWrong : ChangeSpec := { name := "kindLanes", fn := fun _ => fun
  | [d] => { results := [.lit (.bool false)], args := [d] }
  | _ => none }
def KindLanesWrongFalsely : Prop := kindLanesRow.holds Try.pinned (OpenSpec.ofChange kindLanesWrong)

/-- 'locksteplaw03.KindGives': WHATEVER THE INPUT: true; the input reads as it did. -/
def kindGivesSpec : ChangeSpec := { name := "kindGives", fn := fun _ => fun
  | [d] => { results := [.lit (.bool true)], args := [d] }
  | _ => none }
def kindGivesRow : OpenClaim := { program := "ytblhphjdjpodcaa", sum := "4b28ab44c75d3452f74e1bea6e17738102f0fdc16aaff78802905d3ac2c74f23", func := "lockstep/locksteplaw03.KindGives", spec := "kindGives", unfollowed := true, recurses := true, apart := false }
def KindGivesSaid : Prop := kindGivesRow.holds Try.pinned (OpenSpec.ofChange kindGivesSpec)

/-- ITS FALSE NEIGHBOUR: 'it returns false'. Refute it at one input. -/
def kindGivesWrong : ChangeSpec := { name := "kindGives", fn := fun _ => fun
  | [d] => { results := [.lit (.bool false)], args := [d] }
  | _ => none }
def KindGivesWrongFalsely : Prop := kindGivesRow.holds Try.pinned (OpenSpec.ofChange kindGivesWrong)

/-- 'locksteplaw03.KindSame': WHATEVER THE INPUT: true; the input reads as it did. -/
def kindSameSpec : ChangeSpec := { name := "kindSame", fn := fun _ => fun
  | [d1, d2] => { results := [.lit (.bool true)], args := [d1, d2] }
  | _ => none }
def kindSameRow : OpenClaim := { program := "ytblhphjdjpodcaa", sum := "4b28ab44c75d3452f74e1bea6e17738102f0fdc16aaff78802905d3ac2c74f23", func := "lockstep/locksteplaw03.KindSame", spec := "kindSame", unfollowed := true, recurses := true, apart := false }
def KindSameSaid : Prop := kindSameRow.holds Try.pinned (OpenSpec.ofChange kindSameSpec)

/-- ITS FALSE NEIGHBOUR: 'it returns false'. Refute it at one input. -/
def kindSameWrong : ChangeSpec := { name := "kindSame", fn := fun _ => fun
  | [d1, d2] => { results := [.lit (.bool false)], args := [d1, d2] }
  | _ => none }
def KindSameWrongFalsely : Prop := kindSameRow.holds Try.pinned (OpenSpec.ofChange kindSameWrong)

/- THE SECOND FORM. 'bulk': how many values and letters a reading holds, each counted each time it is reached (what is shared counts as often as it is met; a slice's spare places count too). A statement '..UptoSaid' is the law's where the arguments, and the package variables that the reading takes, are together of bulk at most 1048576: NARROWER than '..Said'. Prove '..Said' where nothing that the law and all that it calls make is longer than what came in: it says more and counts as full. Else prove '..UptoSaid'. A law counts once. -/
mutual
def uptoBulk {H : Type} : DataW H → Nat
  | .lit (.string bytes) => bytes.length + 1
  | .lit _ => 1
  | .nil => 1
  | .ptr d => uptoBulk d + 1
  | .slice elems spare => uptoBulkAll elems + uptoBulkAll spare + 1
  | .agg parts => uptoBulkAll parts + 1
  | .iface _ d => uptoBulk d + 1
  | .map entries => uptoBulkEntries entries + 1
  | .held _ => 1
def uptoBulkAll {H : Type} : List (DataW H) → Nat
  | [] => 0
  | d :: r => uptoBulk d + uptoBulkAll r
def uptoBulkEntries {H : Type} : List (Lit × DataW H) → Nat
  | [] => 0
  | x :: r => uptoBulkEntry x + uptoBulkEntries r
def uptoBulkEntry {H : Type} : Lit × DataW H → Nat
  | (.string bytes, d) => bytes.length + uptoBulk d + 1
  | (_, d) => uptoBulk d + 1
 end
def uptoSmall : (H : Type) → List (DataW H) → Bool := fun _ ds => decide (uptoBulkAll ds ≤ 1048576)
def OpenSpec.upto (s : _root_.Go.ChangeSpec) : _root_.Go.OpenSpec := { _root_.Go.OpenSpec.ofChange s with cond := some uptoSmall }

/-- 'locksteplaw03.KindShapes', WHERE WHAT IT READS IS OF BULK AT MOST 1048576: true; the input reads as it did. -/
def kindShapesUptoRow : OpenClaim := { program := "ytblhphjdjpodcaa", sum := "4b28ab44c75d3452f74e1bea6e17738102f0fdc16aaff78802905d3ac2c74f23", func := "lockstep/locksteplaw03.KindShapes", spec := "kindShapes", unfollowed := true, recurses := true, apart := false, narrowed := true }
def KindShapesUptoSaid : Prop := kindShapesUptoRow.holds Try.pinned (OpenSpec.upto kindShapesSpec)

/-- 'locksteplaw03.KindArgs', WHERE WHAT IT READS IS OF BULK AT MOST 1048576: true; the input reads as it did. -/
def kindArgsUptoRow : OpenClaim := { program := "ytblhphjdjpodcaa", sum := "4b28ab44c75d3452f74e1bea6e17738102f0fdc16aaff78802905d3ac2c74f23", func := "lockstep/locksteplaw03.KindArgs", spec := "kindArgs", unfollowed := true, recurses := true, apart := false, narrowed := true }
def KindArgsUptoSaid : Prop := kindArgsUptoRow.holds Try.pinned (OpenSpec.upto kindArgsSpec)

/-- 'locksteplaw03.KindLooks', WHERE WHAT IT READS IS OF BULK AT MOST 1048576: true; the input reads as it did. -/
def kindLooksUptoRow : OpenClaim := { program := "ytblhphjdjpodcaa", sum := "4b28ab44c75d3452f74e1bea6e17738102f0fdc16aaff78802905d3ac2c74f23", func := "lockstep/locksteplaw03.KindLooks", spec := "kindLooks", unfollowed := true, recurses := true, apart := false, narrowed := true }
def KindLooksUptoSaid : Prop := kindLooksUptoRow.holds Try.pinned (OpenSpec.upto kindLooksSpec)

/-- 'locksteplaw03.KindLanes', WHERE WHAT IT READS IS OF BULK AT MOST 1048576: true; the input reads as it did. -/
def kindLanesUptoRow : OpenClaim := { program := "ytblhphjdjpodcaa", sum := "4b28ab44c75d3452f74e1bea6e17738102f0fdc16aaff78802905d3ac2c74f23", func := "lockstep/locksteplaw03.KindLanes", spec := "kindLanes", unfollowed := true, recurses := true, apart := false, narrowed := true }
def KindLanesUptoSaid : Prop := kindLanesUptoRow.holds Try.pinned (OpenSpec.upto kindLanesSpec)

/-- 'locksteplaw03.KindGives', WHERE WHAT IT READS IS OF BULK AT MOST 1048576: true; the input reads as it did. -/
def kindGivesUptoRow : OpenClaim := { program := "ytblhphjdjpodcaa", sum := "4b28ab44c75d3452f74e1bea6e17738102f0fdc16aaff78802905d3ac2c74f23", func := "lockstep/locksteplaw03.KindGives", spec := "kindGives", unfollowed := true, recurses := true, apart := false, narrowed := true }
def KindGivesUptoSaid : Prop := kindGivesUptoRow.holds Try.pinned (OpenSpec.upto kindGivesSpec)

/-- 'locksteplaw03.KindSame', WHERE WHAT IT READS IS OF BULK AT MOST 1048576: true; the input reads as it did. -/
def kindSameUptoRow : OpenClaim := { program := "ytblhphjdjpodcaa", sum := "4b28ab44c75d3452f74e1bea6e17738102f0fdc16aaff78802905d3ac2c74f23", func := "lockstep/locksteplaw03.KindSame", spec := "kindSame", unfollowed := true, recurses := true, apart := false, narrowed := true }
def KindSameUptoSaid : Prop := kindSameUptoRow.holds Try.pinned (OpenSpec.upto kindSameSpec)

end Rows
end Go.Proofs.Ytblhphjdjpodcaa
