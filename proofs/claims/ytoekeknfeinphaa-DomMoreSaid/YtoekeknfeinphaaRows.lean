/-
  No cell of these rows narrows 'for every input' (looked for: loops, veiled, ifaces, maps, wideKeys, modest, calm, conditions, laid).
  DERIVED. THE GIVEN ROWS OF THIS SEAT. 6 by the template 'for every input the law returns true; each argument reads behind the call as it read before'; 0 by the template 'total and deterministic' (their statements: YtoekeknfeinphaaTotals.lean).
  GIVEN WITH THE SEED: the statements are not yours to turn. If you find one false, say at which input.
  Laid BY PROGRAM, IN A SANDBOX (cutbox-rows.mjs): the forced cells as the released guide's own fill.sh prints them over the translation 410f9b4dca5f84f5… (all of the seat's roots in one cut). By AI agents, Wed Nov 11 2026. No macro, syntax, notation, axiom, sorry.
-/
import Derived.Test.YtoekeknfeinphaaChecked
import GoSem.Claim
import GoSem.ClaimJoined
import GoSem.ClaimMapViews
import Derived.JoinedTies
import Derived.KernelRfl
namespace Go.Proofs.Ytoekeknfeinphaa
/- THE CELL 'sum', in the pinned program and in every row, IS THE sha256 OF THE DUMP (.gsa) THAT YtoekeknfeinphaaProg.lean LOADS. Nothing in Lean hashes anything: it is a label: what it is worth is what the hold of that sum in a sandbox is worth. -/
noncomputable def Try.pinned : Pinned := { name := "ytoekeknfeinphaa", sum := "410f9b4dca5f84f5f7a08ff6f0bc0e3f26697c0098d3176409c49273b2edf4fc", checked := Try.checked }
namespace Rows
def none {H : Type} : Left H := { results := [], args := [] }

/-- 'locksteplaw07.DomMore': WHATEVER THE INPUT: true; the input reads as it did. -/
def domMoreSpec : ChangeSpec := { name := "domMore", fn := fun _ => fun
  | [d1, d2, d3] => { results := [.lit (.bool true)], args := [d1, d2, d3] }
  | _ => none }
def domMoreRow : OpenClaim := { program := "ytoekeknfeinphaa", sum := "410f9b4dca5f84f5f7a08ff6f0bc0e3f26697c0098d3176409c49273b2edf4fc", func := "lockstep/locksteplaw07.DomMore", spec := "domMore", unfollowed := true, recurses := true, apart := false }
def DomMoreSaid : Prop := domMoreRow.holds Try.pinned (OpenSpec.ofChange domMoreSpec)

/-- ITS FALSE NEIGHBOUR: 'it returns false'. Refute it at one input. -/
def domMoreWrong : ChangeSpec := { name := "domMore", fn := fun _ => fun
  | [d1, d2, d3] => { results := [.lit (.bool false)], args := [d1, d2, d3] }
  | _ => none }
def DomMoreWrongFalsely : Prop := domMoreRow.holds Try.pinned (OpenSpec.ofChange domMoreWrong)

/-- 'locksteplaw10.LoopAll': WHATEVER THE INPUT: true; the input reads as it did. -/
def loopAllSpec : ChangeSpec := { name := "loopAll", fn := fun _ => fun
  | [d1, d2, d3] => { results := [.lit (.bool true)], args := [d1, d2, d3] }
  | _ => none }
def loopAllRow : OpenClaim := { program := "ytoekeknfeinphaa", sum := "410f9b4dca5f84f5f7a08ff6f0bc0e3f26697c0098d3176409c49273b2edf4fc", func := "lockstep/locksteplaw10.LoopAll", spec := "loopAll", unfollowed := true, recurses := true, apart := false }
def LoopAllSaid : Prop := loopAllRow.holds Try.pinned (OpenSpec.ofChange loopAllSpec)

/-- ITS FALSE NEIGHBOUR: 'it returns false'. Refute it at one input. -/
def loopAllWrong : ChangeSpec := { name := "loopAll", fn := fun _ => fun
  | [d1, d2, d3] => { results := [.lit (.bool false)], args := [d1, d2, d3] }
  | _ => none }
def LoopAllWrongFalsely : Prop := loopAllRow.holds Try.pinned (OpenSpec.ofChange loopAllWrong)

/-- 'locksteplaw10.LoopHeads': WHATEVER THE INPUT: true; the input reads as it did. -/
def loopHeadsSpec : ChangeSpec := { name := "loopHeads", fn := fun _ => fun
  | [d] => { results := [.lit (.bool true)], args := [d] }
  | _ => none }
def loopHeadsRow : OpenClaim := { program := "ytoekeknfeinphaa", sum := "410f9b4dca5f84f5f7a08ff6f0bc0e3f26697c0098d3176409c49273b2edf4fc", func := "lockstep/locksteplaw10.LoopHeads", spec := "loopHeads", unfollowed := true, recurses := true, apart := false }
def LoopHeadsSaid : Prop := loopHeadsRow.holds Try.pinned (OpenSpec.ofChange loopHeadsSpec)

/-- ITS FALSE NEIGHBOUR: 'it returns false'. Refute it at one input. -/
def loopHeadsWrong : ChangeSpec := { name := "loopHeads", fn := fun _ => fun
  | [d] => { results := [.lit (.bool false)], args := [d] }
  | _ => none }
def LoopHeadsWrongFalsely : Prop := loopHeadsRow.holds Try.pinned (OpenSpec.ofChange loopHeadsWrong)

/-- 'locksteplaw10.LoopNone': WHATEVER THE INPUT: true; the input reads as it did. -/
def loopNoneSpec : ChangeSpec := { name := "loopNone", fn := fun _ => fun
  | [d] => { results := [.lit (.bool true)], args := [d] }
  | _ => none }
def loopNoneRow : OpenClaim := { program := "ytoekeknfeinphaa", sum := "410f9b4dca5f84f5f7a08ff6f0bc0e3f26697c0098d3176409c49273b2edf4fc", func := "lockstep/locksteplaw10.LoopNone", spec := "loopNone", unfollowed := true, recurses := true, apart := false }
def LoopNoneSaid : Prop := loopNoneRow.holds Try.pinned (OpenSpec.ofChange loopNoneSpec)

/-- ITS FALSE NEIGHBOUR: 'it returns false'. Refute it at one input. -/
def loopNoneWrong : ChangeSpec := { name := "loopNone", fn := fun _ => fun
  | [d] => { results := [.lit (.bool false)], args := [d] }
  | _ => none }
def LoopNoneWrongFalsely : Prop := loopNoneRow.holds Try.pinned (OpenSpec.ofChange loopNoneWrong)

/-- 'locksteplaw10.LoopSelf': WHATEVER THE INPUT: true; the input reads as it did. -/
def loopSelfSpec : ChangeSpec := { name := "loopSelf", fn := fun _ => fun
  | [d] => { results := [.lit (.bool true)], args := [d] }
  | _ => none }
def loopSelfRow : OpenClaim := { program := "ytoekeknfeinphaa", sum := "410f9b4dca5f84f5f7a08ff6f0bc0e3f26697c0098d3176409c49273b2edf4fc", func := "lockstep/locksteplaw10.LoopSelf", spec := "loopSelf", unfollowed := true, recurses := true, apart := false }
def LoopSelfSaid : Prop := loopSelfRow.holds Try.pinned (OpenSpec.ofChange loopSelfSpec)

/-- ITS FALSE NEIGHBOUR: 'it returns false'. Refute it at one input. -/
def loopSelfWrong : ChangeSpec := { name := "loopSelf", fn := fun _ => fun
  | [d] => { results := [.lit (.bool false)], args := [d] }
  | _ => none }
def LoopSelfWrongFalsely : Prop := loopSelfRow.holds Try.pinned (OpenSpec.ofChange loopSelfWrong)

/-- 'locksteplaw10.LoopRing': WHATEVER THE INPUT: true; the input reads as it did. -/
def loopRingSpec : ChangeSpec := { name := "loopRing", fn := fun _ => fun
  | [d1, d2] => { results := [.lit (.bool true)], args := [d1, d2] }
  | _ => none }
def loopRingRow : OpenClaim := { program := "ytoekeknfeinphaa", sum := "410f9b4dca5f84f5f7a08ff6f0bc0e3f26697c0098d3176409c49273b2edf4fc", func := "lockstep/locksteplaw10.LoopRing", spec := "loopRing", unfollowed := true, recurses := true, apart := false }
def LoopRingSaid : Prop := loopRingRow.holds Try.pinned (OpenSpec.ofChange loopRingSpec)

/-- ITS FALSE NEIGHBOUR: 'it returns false'. Refute it at one input. -/
def loopRingWrong : ChangeSpec := { name := "loopRing", fn := fun _ => fun
  | [d1, d2] => { results := [.lit (.bool false)], args := [d1, d2] }
  | _ => none }
def LoopRingWrongFalsely : Prop := loopRingRow.holds Try.pinned (OpenSpec.ofChange loopRingWrong)

/- THE SECOND FORM. 'bulk': how many values and letters a reading holds, each counted each time it is reached (what is shared counts as often as it is met; a slice's spare places count too). A statement '..UptoSaid' is the law's where the arguments, and the package variables that the reading takes, are together of bulk at most 1048576: NARROWER than '..Said'. Prove '..Said' where nothing that the law and all that it calls make is longer than what came in: it says more and counts as full. Else prove '..UptoSaid'. A law counts once. -/
mutual
def uptoBulk {H : Type} : DataW H → Nat
  | .lit (.string bytes) => bytes.length + 1
  | .lit _ => 1
  | .nil => 1
  | .ptr d => uptoBulk d + 1
  | .slice elems spare => uptoBulkAll elems + uptoBulkAll spare + 1
  | .agg parts => uptoBulkAll parts + 1
  | .iface _ d => uptoBulk d + 1
  | .map entries => uptoBulkEntries entries + 1
  | .held _ => 1
def uptoBulkAll {H : Type} : List (DataW H) → Nat
  | [] => 0
  | d :: r => uptoBulk d + uptoBulkAll r
def uptoBulkEntries {H : Type} : List (Lit × DataW H) → Nat
  | [] => 0
  | x :: r => uptoBulkEntry x + uptoBulkEntries r
def uptoBulkEntry {H : Type} : Lit × DataW H → Nat
  | (.string bytes, d) => bytes.length + uptoBulk d + 1
  | (_, d) => uptoBulk d + 1
 end
def uptoSmall : (H : Type) → List (DataW H) → Bool := fun _ ds => decide (uptoBulkAll ds ≤ 1048576)
def OpenSpec.upto (s : _root_.Go.ChangeSpec) : _root_.Go.OpenSpec := { _root_.Go.OpenSpec.ofChange s with cond := some uptoSmall }

/-- 'locksteplaw07.DomMore', WHERE WHAT IT READS IS OF BULK AT MOST 1048576: true; the input reads as it did. -/
def domMoreUptoRow : OpenClaim := { program := "ytoekeknfeinphaa", sum := "410f9b4dca5f84f5f7a08ff6f0bc0e3f26697c0098d3176409c49273b2edf4fc", func := "lockstep/locksteplaw07.DomMore", spec := "domMore", unfollowed := true, recurses := true, apart := false, narrowed := true }
def DomMoreUptoSaid : Prop := domMoreUptoRow.holds Try.pinned (OpenSpec.upto domMoreSpec)

/-- 'locksteplaw10.LoopAll', WHERE WHAT IT READS IS OF BULK AT MOST 1048576: true; the input reads as it did. -/
def loopAllUptoRow : OpenClaim := { program := "ytoekeknfeinphaa", sum := "410f9b4dca5f84f5f7a08ff6f0bc0e3f26697c0098d3176409c49273b2edf4fc", func := "lockstep/locksteplaw10.LoopAll", spec := "loopAll", unfollowed := true, recurses := true, apart := false, narrowed := true }
def LoopAllUptoSaid : Prop := loopAllUptoRow.holds Try.pinned (OpenSpec.upto loopAllSpec)

/-- 'locksteplaw10.LoopHeads', WHERE WHAT IT READS IS OF BULK AT MOST 1048576: true; the input reads as it did. -/
def loopHeadsUptoRow : OpenClaim := { program := "ytoekeknfeinphaa", sum := "410f9b4dca5f84f5f7a08ff6f0bc0e3f26697c0098d3176409c49273b2edf4fc", func := "lockstep/locksteplaw10.LoopHeads", spec := "loopHeads", unfollowed := true, recurses := true, apart := false, narrowed := true }
def LoopHeadsUptoSaid : Prop := loopHeadsUptoRow.holds Try.pinned (OpenSpec.upto loopHeadsSpec)

/-- 'locksteplaw10.LoopNone', WHERE WHAT IT READS IS OF BULK AT MOST 1048576: true; the input reads as it did. -/
def loopNoneUptoRow : OpenClaim := { program := "ytoekeknfeinphaa", sum := "410f9b4dca5f84f5f7a08ff6f0bc0e3f26697c0098d3176409c49273b2edf4fc", func := "lockstep/locksteplaw10.LoopNone", spec := "loopNone", unfollowed := true, recurses := true, apart := false, narrowed := true }
def LoopNoneUptoSaid : Prop := loopNoneUptoRow.holds Try.pinned (OpenSpec.upto loopNoneSpec)

/-- 'locksteplaw10.LoopSelf', WHERE WHAT IT READS IS OF BULK AT MOST 1048576: true; the input reads as it did. -/
def loopSelfUptoRow : OpenClaim := { program := "ytoekeknfeinphaa", sum := "410f9b4dca5f84f5f7a08ff6f0bc0e3f26697c0098d3176409c49273b2edf4fc", func := "lockstep/locksteplaw10.LoopSelf", spec := "loopSelf", unfollowed := true, recurses := true, apart := false, narrowed := true }
def LoopSelfUptoSaid : Prop := loopSelfUptoRow.holds Try.pinned (OpenSpec.upto loopSelfSpec)

/-- 'locksteplaw10.LoopRing', WHERE WHAT IT READS IS OF BULK AT MOST 1048576: true; the input reads as it did. -/
def loopRingUptoRow : OpenClaim := { program := "ytoekeknfeinphaa", sum := "410f9b4dca5f84f5f7a08ff6f0bc0e3f26697c0098d3176409c49273b2edf4fc", func := "lockstep/locksteplaw10.LoopRing", spec := "loopRing", unfollowed := true, recurses := true, apart := false, narrowed := true }
def LoopRingUptoSaid : Prop := loopRingUptoRow.holds Try.pinned (OpenSpec.upto loopRingSpec)

end Rows
end Go.Proofs.Ytoekeknfeinphaa
