/- slices.SortFunc of what hangs on what: the shelf's contract at dep.compare. Conditions: each theorem's own. -/
import Derived.Test.YtmbkpnhmeljcgaaSf
import Derived.Test.YtmbkpnhmeljcgaaSrl
set_option linter.unusedVariables false
set_option linter.unusedSimpArgs false
noncomputable section
namespace Go.PrD
open Go Go.Ev Go.Sort Go.RowKit Go.Proofs
theorem sortf_calls (blk off cap : Nat) (xs : List Dep) (w : World) (hH : HoldsK enc 3 w blk off xs.toArray) (hb : blk < w.heap.size) (hl : xs.length < 4611686018427387904) :
    Calls Try.prog 17 #[.slice (some ⟨blk, off, none⟩) xs.length cap, .func (.func 18) #[] #[]] w fun e w' => e = .returned (.tuple #[]) ∧ ∃ n os, w' = sortWorldK enc 3 w blk off n (xs.mergeSort fun x y => !(ltOf cmpD) y x).toArray os := by
  have hcmp : CmpLays Try.prog 18 #[] enc 3 cmpD blk off xs.toArray.size w := fun m os dk _ x y => cmp_calls _ x y
  have eg : ∀ args w, (callFunc 18 args).run Try.prog w = .ok (.enter 18 args) w := enters_of Try.func18 (by kernel_rfl) rfl
  have hcon := AnyQ.slices_SortFunc_total Try.laysSF 3 Try.isAgg37 Try.sizeOf37 enc (fun _ => rfl) (fun x v hv => by simp [enc] at hv; rcases hv with rfl | rfl | rfl <;> rfl) cmpD cmp_swo 18 #[] blk off cap xs.toArray w eg hcmp hH hb (by simpa using hl) cmp_total
  change Calls Try.prog 17 _ _ _ at hcon
  simpa using hcon
theorem sortf_none (a : Option Addr) (cap : Nat) (fv : Value) (w : World) : Calls Try.prog 17 #[.slice a 0 cap, fv] w fun e w' => e = .returned (.tuple #[]) ∧ w' = w :=
  AnyF.slices_SortFunc_none { Try.laysSF with } a cap fv w
end Go.PrD
