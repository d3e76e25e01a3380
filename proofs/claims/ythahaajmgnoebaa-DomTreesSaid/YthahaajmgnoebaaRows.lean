/-
  No cell of these rows narrows 'for every input' (looked for: loops, veiled, ifaces, maps, wideKeys, modest, calm, conditions, laid).
  DERIVED. THE GIVEN ROWS OF THIS SEAT. 6 by the template 'for every input the law returns true; each argument reads behind the call as it read before'; 0 by the template 'total and deterministic' (their statements: YthahaajmgnoebaaTotals.lean).
  GIVEN WITH THE SEED: the statements are not yours to turn. If you find one false, say at which input.
  Laid BY PROGRAM, IN A SANDBOX (cutbox-rows.mjs): the forced cells as the released guide's own fill.sh prints them over the translation 70e42c04c84d2f27… (all of the seat's roots in one cut). By AI agents, Wed Nov 11 2026. No macro, syntax, notation, axiom, sorry.
-/
import Derived.Test.YthahaajmgnoebaaChecked
import GoSem.Claim
import GoSem.ClaimJoined
import GoSem.ClaimMapViews
import Derived.JoinedTies
import Derived.KernelRfl
namespace Go.Proofs.Ythahaajmgnoebaa
/- THE CELL 'sum', in the pinned program and in every row, IS THE sha256 OF THE DUMP (.gsa) THAT YthahaajmgnoebaaProg.lean LOADS. Nothing in Lean hashes anything: it is a label: what it is worth is what the hold of that sum in a sandbox is worth. -/
noncomputable def Try.pinned : Pinned := { name := "ythahaajmgnoebaa", sum := "70e42c04c84d2f2721092a6cfa1bed4ef755ed327d616813ea9dfb8047216fa4", checked := Try.checked }
namespace Rows
def none {H : Type} : Left H := { results := [], args := [] }

/-- 'locksteplaw07.DomTrees': WHATEVER THE INPUT: true; the input reads as it did. -/
def domTreesSpec : ChangeSpec := { name := "domTrees", fn := fun _ => fun
  | [d1, d2, d3] => { results := [.lit (.bool true)], args := [d1, d2, d3] }
  | _ => none }
def domTreesRow : OpenClaim := { program := "ythahaajmgnoebaa", sum := "70e42c04c84d2f2721092a6cfa1bed4ef755ed327d616813ea9dfb8047216fa4", func := "lockstep/locksteplaw07.DomTrees", spec := "domTrees", unfollowed := true, recurses := true, apart := false }
def DomTreesSaid : Prop := domTreesRow.holds Try.pinned (OpenSpec.ofChange domTreesSpec)

/-- ITS FALSE NEIGHBOUR: 'it returns false'. Refute it at one input. -/
def domTreesWrong : ChangeSpec := { name := "domTrees", fn := fun _ => fun
  | [d1, d2, d3] => { results := [.lit (.bool false)], args := [d1, d2, d3] }
  | _ => none }
def DomTreesWrongFalsely : Prop := domTreesRow.holds Try.pinned (OpenSpec.ofChange domTreesWrong)

/-- 'locksteplaw07.DomPaths': WHATEVER THE INPUT: true; the input reads as it did. -/
def domPathsSpec : ChangeSpec := { name := "domPaths", fn := fun _ => fun
  | [d1, d2, d3] => { results := [.lit (.bool true)], args := [d1, d2, d3] }
  | _ => none }
def domPathsRow : OpenClaim := { program := "ythahaajmgnoebaa", sum := "70e42c04c84d2f2721092a6cfa1bed4ef755ed327d616813ea9dfb8047216fa4", func := "lockstep/locksteplaw07.DomPaths", spec := "domPaths", unfollowed := true, recurses := true, apart := false }
def DomPathsSaid : Prop := domPathsRow.holds Try.pinned (OpenSpec.ofChange domPathsSpec)

/-- ITS FALSE NEIGHBOUR: 'it returns false'. Refute it at one input. -/
def domPathsWrong : ChangeSpec := { name := "domPaths", fn := fun _ => fun
  | [d1, d2, d3] => { results := [.lit (.bool false)], args := [d1, d2, d3] }
  | _ => none }
def DomPathsWrongFalsely : Prop := domPathsRow.holds Try.pinned (OpenSpec.ofChange domPathsWrong)

/-- 'locksteplaw07.DomOver': WHATEVER THE INPUT: true; the input reads as it did. -/
def domOverSpec : ChangeSpec := { name := "domOver", fn := fun _ => fun
  | [d1, d2] => { results := [.lit (.bool true)], args := [d1, d2] }
  | _ => none }
def domOverRow : OpenClaim := { program := "ythahaajmgnoebaa", sum := "70e42c04c84d2f2721092a6cfa1bed4ef755ed327d616813ea9dfb8047216fa4", func := "lockstep/locksteplaw07.DomOver", spec := "domOver", unfollowed := true, recurses := true, apart := false }
def DomOverSaid : Prop := domOverRow.holds Try.pinned (OpenSpec.ofChange domOverSpec)

/-- ITS FALSE NEIGHBOUR: 'it returns false'. Refute it at one input. -/
def domOverWrong : ChangeSpec := { name := "domOver", fn := fun _ => fun
  | [d1, d2] => { results := [.lit (.bool false)], args := [d1, d2] }
  | _ => none }
def DomOverWrongFalsely : Prop := domOverRow.holds Try.pinned (OpenSpec.ofChange domOverWrong)

/-- 'locksteplaw07.DomRoot': WHATEVER THE INPUT: true; the input reads as it did. -/
def domRootSpec : ChangeSpec := { name := "domRoot", fn := fun _ => fun
  | [d1, d2] => { results := [.lit (.bool true)], args := [d1, d2] }
  | _ => none }
def domRootRow : OpenClaim := { program := "ythahaajmgnoebaa", sum := "70e42c04c84d2f2721092a6cfa1bed4ef755ed327d616813ea9dfb8047216fa4", func := "lockstep/locksteplaw07.DomRoot", spec := "domRoot", unfollowed := true, recurses := true, apart := false }
def DomRootSaid : Prop := domRootRow.holds Try.pinned (OpenSpec.ofChange domRootSpec)

/-- ITS FALSE NEIGHBOUR: 'it returns false'. Refute it at one input. -/
def domRootWrong : ChangeSpec := { name := "domRoot", fn := fun _ => fun
  | [d1, d2] => { results := [.lit (.bool false)], args := [d1, d2] }
  | _ => none }
def DomRootWrongFalsely : Prop := domRootRow.holds Try.pinned (OpenSpec.ofChange domRootWrong)

/-- 'locksteplaw07.DomKids': WHATEVER THE INPUT: true; the input reads as it did. -/
def domKidsSpec : ChangeSpec := { name := "domKids", fn := fun _ => fun
  | [d] => { results := [.lit (.bool true)], args := [d] }
  | _ => none }
def domKidsRow : OpenClaim := { program := "ythahaajmgnoebaa", sum := "70e42c04c84d2f2721092a6cfa1bed4ef755ed327d616813ea9dfb8047216fa4", func := "lockstep/locksteplaw07.DomKids", spec := "domKids", unfollowed := true, recurses := true, apart := false }
def DomKidsSaid : Prop := domKidsRow.holds Try.pinned (OpenSpec.ofChange domKidsSpec)

/-- ITS FALSE NEIGHBOUR: 'it returns false'. Refute it at one input. -/
def domKidsWrong : ChangeSpec := { name := "domKids", fn := fun _ => fun
  | [d] => { results := [.lit (.bool false)], args := [d] }
  | _ => none }
def DomKidsWrongFalsely : Prop := domKidsRow.holds Try.pinned (OpenSpec.ofChange domKidsWrong)

/-- 'locksteplaw07.DomMore': WHATEVER THE INPUT: true; the input reads as it did. -/
def domMoreSpec : ChangeSpec := { name := "domMore", fn := fun _ => fun
  | [d1, d2, d3] => { results := [.lit (.bool true)], args := [d1, d2, d3] }
  | _ => none }
def domMoreRow : OpenClaim := { program := "ythahaajmgnoebaa", sum := "70e42c04c84d2f2721092a6cfa1bed4ef755ed327d616813ea9dfb8047216fa4", func := "lockstep/locksteplaw07.DomMore", spec := "domMore", unfollowed := true, recurses := true, apart := false }
def DomMoreSaid : Prop := domMoreRow.holds Try.pinned (OpenSpec.ofChange domMoreSpec)

/-- ITS FALSE NEIGHBOUR: 'it returns false'. Refute it at one input. -/
def domMoreWrong : ChangeSpec := { name := "domMore", fn := fun _ => fun
  | [d1, d2, d3] => { results := [.lit (.bool false)], args := [d1, d2, d3] }
  | _ => none }
def DomMoreWrongFalsely : Prop := domMoreRow.holds Try.pinned (OpenSpec.ofChange domMoreWrong)

/- THE SECOND FORM. 'bulk': how many values and letters a reading holds, each counted each time it is reached (what is shared counts as often as it is met; a slice's spare places count too). A statement '..UptoSaid' is the law's where the arguments, and the package variables that the reading takes, are together of bulk at most 1048576: NARROWER than '..Said'. Prove '..Said' where nothing that the law and all that it calls make is longer than what came in: it says more and counts as full. Else prove '..UptoSaid'. A law counts once. -/
mutual
def uptoBulk {H : Type} : DataW H → Nat
  | .lit (.string bytes) => bytes.length + 1
  | .lit _ => 1
  | .nil => 1
  | .ptr d => uptoBulk d + 1
  | .slice elems spare => uptoBulkAll elems + uptoBulkAll spare + 1
  | .agg parts => uptoBulkAll parts + 1
  | .iface _ d => uptoBulk d + 1
  | .map entries => uptoBulkEntries entries + 1
  | .held _ => 1
def uptoBulkAll {H : Type} : List (DataW H) → Nat
  | [] => 0
  | d :: r => uptoBulk d + uptoBulkAll r
def uptoBulkEntries {H : Type} : List (Lit × DataW H) → Nat
  | [] => 0
  | x :: r => uptoBulkEntry x + uptoBulkEntries r
def uptoBulkEntry {H : Type} : Lit × DataW H → Nat
  | (.string bytes, d) => bytes.length + uptoBulk d + 1
  | (_, d) => uptoBulk d + 1
 end
def uptoSmall : (H : Type) → List (DataW H) → Bool := fun _ ds => decide (uptoBulkAll ds ≤ 1048576)
def OpenSpec.upto (s : _root_.Go.ChangeSpec) : _root_.Go.OpenSpec := { _root_.Go.OpenSpec.ofChange s with cond := some uptoSmall }

/-- 'locksteplaw07.DomTrees', WHERE WHAT IT READS IS OF BULK AT MOST 1048576: true; the input reads as it did. -/
def domTreesUptoRow : OpenClaim := { program := "ythahaajmgnoebaa", sum := "70e42c04c84d2f2721092a6cfa1bed4ef755ed327d616813ea9dfb8047216fa4", func := "lockstep/locksteplaw07.DomTrees", spec := "domTrees", unfollowed := true, recurses := true, apart := false, narrowed := true }
def DomTreesUptoSaid : Prop := domTreesUptoRow.holds Try.pinned (OpenSpec.upto domTreesSpec)

/-- 'locksteplaw07.DomPaths', WHERE WHAT IT READS IS OF BULK AT MOST 1048576: true; the input reads as it did. -/
def domPathsUptoRow : OpenClaim := { program := "ythahaajmgnoebaa", sum := "70e42c04c84d2f2721092a6cfa1bed4ef755ed327d616813ea9dfb8047216fa4", func := "lockstep/locksteplaw07.DomPaths", spec := "domPaths", unfollowed := true, recurses := true, apart := false, narrowed := true }
def DomPathsUptoSaid : Prop := domPathsUptoRow.holds Try.pinned (OpenSpec.upto domPathsSpec)

/-- 'locksteplaw07.DomOver', WHERE WHAT IT READS IS OF BULK AT MOST 1048576: true; the input reads as it did. -/
def domOverUptoRow : OpenClaim := { program := "ythahaajmgnoebaa", sum := "70e42c04c84d2f2721092a6cfa1bed4ef755ed327d616813ea9dfb8047216fa4", func := "lockstep/locksteplaw07.DomOver", spec := "domOver", unfollowed := true, recurses := true, apart := false, narrowed := true }
def DomOverUptoSaid : Prop := domOverUptoRow.holds Try.pinned (OpenSpec.upto domOverSpec)

/-- 'locksteplaw07.DomRoot', WHERE WHAT IT READS IS OF BULK AT MOST 1048576: true; the input reads as it did. -/
def domRootUptoRow : OpenClaim := { program := "ythahaajmgnoebaa", sum := "70e42c04c84d2f2721092a6cfa1bed4ef755ed327d616813ea9dfb8047216fa4", func := "lockstep/locksteplaw07.DomRoot", spec := "domRoot", unfollowed := true, recurses := true, apart := false, narrowed := true }
def DomRootUptoSaid : Prop := domRootUptoRow.holds Try.pinned (OpenSpec.upto domRootSpec)

/-- 'locksteplaw07.DomKids', WHERE WHAT IT READS IS OF BULK AT MOST 1048576: true; the input reads as it did. -/
def domKidsUptoRow : OpenClaim := { program := "ythahaajmgnoebaa", sum := "70e42c04c84d2f2721092a6cfa1bed4ef755ed327d616813ea9dfb8047216fa4", func := "lockstep/locksteplaw07.DomKids", spec := "domKids", unfollowed := true, recurses := true, apart := false, narrowed := true }
def DomKidsUptoSaid : Prop := domKidsUptoRow.holds Try.pinned (OpenSpec.upto domKidsSpec)

/-- 'locksteplaw07.DomMore', WHERE WHAT IT READS IS OF BULK AT MOST 1048576: true; the input reads as it did. -/
def domMoreUptoRow : OpenClaim := { program := "ythahaajmgnoebaa", sum := "70e42c04c84d2f2721092a6cfa1bed4ef755ed327d616813ea9dfb8047216fa4", func := "lockstep/locksteplaw07.DomMore", spec := "domMore", unfollowed := true, recurses := true, apart := false, narrowed := true }
def DomMoreUptoSaid : Prop := domMoreUptoRow.holds Try.pinned (OpenSpec.upto domMoreSpec)

end Rows
end Go.Proofs.Ythahaajmgnoebaa
