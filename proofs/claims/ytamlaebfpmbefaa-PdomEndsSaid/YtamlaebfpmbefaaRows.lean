/-
  No cell of these rows narrows 'for every input' (looked for: loops, veiled, ifaces, maps, wideKeys, modest, calm, conditions, laid).
  DERIVED. THE GIVEN ROWS OF THIS SEAT. 4 by the template 'for every input the law returns true; each argument reads behind the call as it read before'; 0 by the template 'total and deterministic' (their statements: YtamlaebfpmbefaaTotals.lean).
  GIVEN WITH THE SEED: the statements are not yours to turn. If you find one false, say at which input.
  Laid BY PROGRAM, IN A SANDBOX (cutbox-rows.mjs): the forced cells as the released guide's own fill.sh prints them over the translation 6c1a0e5ebd85d651… (all of the seat's roots in one cut). By AI agents, Wed Nov 11 2026. No macro, syntax, notation, axiom, sorry.
-/
import Derived.Test.YtamlaebfpmbefaaChecked
import GoSem.Claim
import GoSem.ClaimJoined
import GoSem.ClaimMapViews
import Derived.JoinedTies
import Derived.KernelRfl
namespace Go.Proofs.Ytamlaebfpmbefaa
/- THE CELL 'sum', in the pinned program and in every row, IS THE sha256 OF THE DUMP (.gsa) THAT YtamlaebfpmbefaaProg.lean LOADS. Nothing in Lean hashes anything: it is a label: what it is worth is what the hold of that sum in a sandbox is worth. -/
noncomputable def Try.pinned : Pinned := { name := "ytamlaebfpmbefaa", sum := "6c1a0e5ebd85d6515d5274345e2b3a501dbce7039944e6f32a20e87dd0c3528e", checked := Try.checked }
namespace Rows
def none {H : Type} : Left H := { results := [], args := [] }

/-- 'locksteplaw08.PdomOver': WHATEVER THE INPUT: true; the input reads as it did. -/
def pdomOverSpec : ChangeSpec := { name := "pdomOver", fn := fun _ => fun
  | [d] => { results := [.lit (.bool true)], args := [d] }
  | _ => none }
def pdomOverRow : OpenClaim := { program := "ytamlaebfpmbefaa", sum := "6c1a0e5ebd85d6515d5274345e2b3a501dbce7039944e6f32a20e87dd0c3528e", func := "lockstep/locksteplaw08.PdomOver", spec := "pdomOver", unfollowed := true, recurses := true, apart := false }
def PdomOverSaid : Prop := pdomOverRow.holds Try.pinned (OpenSpec.ofChange pdomOverSpec)

/-- ITS FALSE NEIGHBOUR: 'it returns false'. Refute it at one input. -/
def pdomOverWrong : ChangeSpec := { name := "pdomOver", fn := fun _ => fun
  | [d] => { results := [.lit (.bool false)], args := [d] }
  | _ => none }
def PdomOverWrongFalsely : Prop := pdomOverRow.holds Try.pinned (OpenSpec.ofChange pdomOverWrong)

/-- 'locksteplaw08.PdomEnds': WHATEVER THE INPUT: true; the input reads as it did. -/
def pdomEndsSpec : ChangeSpec := { name := "pdomEnds", fn := fun _ => fun
  | [d] => { results := [.lit (.bool true)], args := [d] }
  | _ => none }
def pdomEndsRow : OpenClaim := { program := "ytamlaebfpmbefaa", sum := "6c1a0e5ebd85d6515d5274345e2b3a501dbce7039944e6f32a20e87dd0c3528e", func := "lockstep/locksteplaw08.PdomEnds", spec := "pdomEnds", unfollowed := true, recurses := true, apart := false }
def PdomEndsSaid : Prop := pdomEndsRow.holds Try.pinned (OpenSpec.ofChange pdomEndsSpec)

/-- ITS FALSE NEIGHBOUR: 'it returns false'. Refute it at one input. -/
def pdomEndsWrong : ChangeSpec := { name := "pdomEnds", fn := fun _ => fun
  | [d] => { results := [.lit (.bool false)], args := [d] }
  | _ => none }
def PdomEndsWrongFalsely : Prop := pdomEndsRow.holds Try.pinned (OpenSpec.ofChange pdomEndsWrong)

/-- 'locksteplaw08.PdomLine': WHATEVER THE INPUT: true; the input reads as it did. -/
def pdomLineSpec : ChangeSpec := { name := "pdomLine", fn := fun _ => fun
  | [d] => { results := [.lit (.bool true)], args := [d] }
  | _ => none }
def pdomLineRow : OpenClaim := { program := "ytamlaebfpmbefaa", sum := "6c1a0e5ebd85d6515d5274345e2b3a501dbce7039944e6f32a20e87dd0c3528e", func := "lockstep/locksteplaw08.PdomLine", spec := "pdomLine", unfollowed := true, recurses := true, apart := false }
def PdomLineSaid : Prop := pdomLineRow.holds Try.pinned (OpenSpec.ofChange pdomLineSpec)

/-- ITS FALSE NEIGHBOUR: 'it returns false'. Refute it at one input. -/
def pdomLineWrong : ChangeSpec := { name := "pdomLine", fn := fun _ => fun
  | [d] => { results := [.lit (.bool false)], args := [d] }
  | _ => none }
def PdomLineWrongFalsely : Prop := pdomLineRow.holds Try.pinned (OpenSpec.ofChange pdomLineWrong)

/-- 'locksteplaw08.PdomShut': WHATEVER THE INPUT: true; the input reads as it did. -/
def pdomShutSpec : ChangeSpec := { name := "pdomShut", fn := fun _ => fun
  | [d] => { results := [.lit (.bool true)], args := [d] }
  | _ => none }
def pdomShutRow : OpenClaim := { program := "ytamlaebfpmbefaa", sum := "6c1a0e5ebd85d6515d5274345e2b3a501dbce7039944e6f32a20e87dd0c3528e", func := "lockstep/locksteplaw08.PdomShut", spec := "pdomShut", unfollowed := true, recurses := true, apart := false }
def PdomShutSaid : Prop := pdomShutRow.holds Try.pinned (OpenSpec.ofChange pdomShutSpec)

/-- ITS FALSE NEIGHBOUR: 'it returns false'. Refute it at one input. -/
def pdomShutWrong : ChangeSpec := { name := "pdomShut", fn := fun _ => fun
  | [d] => { results := [.lit (.bool false)], args := [d] }
  | _ => none }
def PdomShutWrongFalsely : Prop := pdomShutRow.holds Try.pinned (OpenSpec.ofChange pdomShutWrong)

/- THE SECOND FORM. 'bulk': how many values and letters a reading holds, each counted each time it is reached (what is shared counts as often as it is met; a slice's spare places count too). A statement '..UptoSaid' is the law's where the arguments, and the package variables that the reading takes, are together of bulk at most 1048576: NARROWER than '..Said'. Prove '..Said' where nothing that the law and all that it calls make is longer than what came in: it says more and counts as full. Else prove '..UptoSaid'. A law counts once. -/
mutual
def uptoBulk {H : Type} : DataW H → Nat
  | .lit (.string bytes) => bytes.length + 1
  | .lit _ => 1
  | .nil => 1
  | .ptr d => uptoBulk d + 1
  | .slice elems spare => uptoBulkAll elems + uptoBulkAll spare + 1
  | .agg parts => uptoBulkAll parts + 1
  | .iface _ d => uptoBulk d + 1
  | .map entries => uptoBulkEntries entries + 1
  | .held _ => 1
def uptoBulkAll {H : Type} : List (DataW H) → Nat
  | [] => 0
  | d :: r => uptoBulk d + uptoBulkAll r
def uptoBulkEntries {H : Type} : List (Lit × DataW H) → Nat
  | [] => 0
  | x :: r => uptoBulkEntry x + uptoBulkEntries r
def uptoBulkEntry {H : Type} : Lit × DataW H → Nat
  | (.string bytes, d) => bytes.length + uptoBulk d + 1
  | (_, d) => uptoBulk d + 1
 end
def uptoSmall : (H : Type) → List (DataW H) → Bool := fun _ ds => decide (uptoBulkAll ds ≤ 1048576)
def OpenSpec.upto (s : _root_.Go.ChangeSpec) : _root_.Go.OpenSpec := { _root_.Go.OpenSpec.ofChange s with cond := some uptoSmall }

/-- 'locksteplaw08.PdomOver', WHERE WHAT IT READS IS OF BULK AT MOST 1048576: true; the input reads as it did. -/
def pdomOverUptoRow : OpenClaim := { program := "ytamlaebfpmbefaa", sum := "6c1a0e5ebd85d6515d5274345e2b3a501dbce7039944e6f32a20e87dd0c3528e", func := "lockstep/locksteplaw08.PdomOver", spec := "pdomOver", unfollowed := true, recurses := true, apart := false, narrowed := true }
def PdomOverUptoSaid : Prop := pdomOverUptoRow.holds Try.pinned (OpenSpec.upto pdomOverSpec)

/-- 'locksteplaw08.PdomEnds', WHERE WHAT IT READS IS OF BULK AT MOST 1048576: true; the input reads as it did. -/
def pdomEndsUptoRow : OpenClaim := { program := "ytamlaebfpmbefaa", sum := "6c1a0e5ebd85d6515d5274345e2b3a501dbce7039944e6f32a20e87dd0c3528e", func := "lockstep/locksteplaw08.PdomEnds", spec := "pdomEnds", unfollowed := true, recurses := true, apart := false, narrowed := true }
def PdomEndsUptoSaid : Prop := pdomEndsUptoRow.holds Try.pinned (OpenSpec.upto pdomEndsSpec)

/-- 'locksteplaw08.PdomLine', WHERE WHAT IT READS IS OF BULK AT MOST 1048576: true; the input reads as it did. -/
def pdomLineUptoRow : OpenClaim := { program := "ytamlaebfpmbefaa", sum := "6c1a0e5ebd85d6515d5274345e2b3a501dbce7039944e6f32a20e87dd0c3528e", func := "lockstep/locksteplaw08.PdomLine", spec := "pdomLine", unfollowed := true, recurses := true, apart := false, narrowed := true }
def PdomLineUptoSaid : Prop := pdomLineUptoRow.holds Try.pinned (OpenSpec.upto pdomLineSpec)

/-- 'locksteplaw08.PdomShut', WHERE WHAT IT READS IS OF BULK AT MOST 1048576: true; the input reads as it did. -/
def pdomShutUptoRow : OpenClaim := { program := "ytamlaebfpmbefaa", sum := "6c1a0e5ebd85d6515d5274345e2b3a501dbce7039944e6f32a20e87dd0c3528e", func := "lockstep/locksteplaw08.PdomShut", spec := "pdomShut", unfollowed := true, recurses := true, apart := false, narrowed := true }
def PdomShutUptoSaid : Prop := pdomShutUptoRow.holds Try.pinned (OpenSpec.upto pdomShutSpec)

end Rows
end Go.Proofs.Ytamlaebfpmbefaa
