/- The contracts of slices.Collect, slices.Sort and slices.Compact at numbers, as the printed functions name them. Conditions: none. -/
import Derived.Test.YtkocbcindjalcaaE4
import Derived.Test.YtkocbcindjalcaaCol
import Derived.Test.YtkocbcindjalcaaSrt
set_option linter.unusedVariables false
set_option linter.unusedSimpArgs false
noncomputable section
namespace Go.PrS
open Go Go.Ev Go.Proofs
def slices_Collect_int_slices_Values_int_int_1 (_n : Nat) (t0 : List Int) : Option (List Int × List Int) := if t0.length ≤ 1000000 then some (t0, t0) else none
def slices_Collect_int_slices_Values_int_int_1_c (n : Nat) : Con := mkCon [.func 33 0 (.box (.val (.list (.int .i64))))] [.own (.int .i64)] (fun x => slices_Collect_int_slices_Values_int_int_1 n x.1)
theorem slices_Collect_int_slices_Values_int_int_1_m (n : Nat) : Meets Try.prog 31 (slices_Collect_int_slices_Values_int_int_1_c n) :=
  collect_meets fun Bs sv zs hl w hB hc hI => callsIn_wide.1 (Go.Proofs.YtkocbcindjalcaaCol.collect_in Fence.wide 5 trivial trivial trivial rfl (by omega) Bs sv zs hl w hB hc hI)
def slices_Sort_int_int (_n : Nat) (t0 : List Int) : Option (List Int) := if t0.length < 4611686018427387904 then some (isort t0) else none
def slices_Sort_int_int_c (n : Nat) : Con := mkCon [.ip (.int .i64)] [] (fun x => slices_Sort_int_int n x.1)
theorem slices_Sort_int_int_m (n : Nat) : Meets Try.prog 32 (slices_Sort_int_int_c n) := sort_meets fun blk off cap zs w h1 h2 h3 => Try.slices_Sort_int blk off cap zs w h1 h2 h3
def slices_Sort_int_int_f32 (_n : Nat) (t0 : List Int) : Option Unit := if t0.length = 0 then some () else none
def slices_Sort_int_int_f32_c (n : Nat) : Con := mkCon [.val (.list (.int .i64))] [] (fun x => slices_Sort_int_int_f32 n x.1)
theorem slices_Sort_int_int_f32_m (n : Nat) : Meets Try.prog 32 (slices_Sort_int_int_f32_c n) := sort_empty_meets fun a cap w => Try.slices_Sort_int_none a cap w
theorem compact_le (zs : List Int) : (Lib.compact zs).length ≤ zs.length := by
  unfold Lib.compact Lib.compactUpTo
  rw [List.length_map]
  exact Nat.le_trans (List.length_filter_le _ _) (by simp)
def slices_Compact_int_int (_n : Nat) (t0 : List Int) : Option (List Int) := if t0.length ≤ 9223372036854775807 then some (Lib.compact t0) else none
def slices_Compact_int_int_c (n : Nat) : Con := mkCon [.mv (.int .i64)] [.own (.int .i64)] (fun x => slices_Compact_int_int n x.1)
theorem slices_Compact_int_int_m (n : Nat) : Meets Try.prog 17 (slices_Compact_int_int_c n) :=
  compact_meets compact_le (fun blk off cap zs w h1 h2 h3 => Try.slices_Compact_int blk off cap zs w h1 h2 h3) fun a cap w => Try.slices_Compact_int_empty a cap w
def slices_Clone_int_int (_n : Nat) (t0 : List Int) : Option (List Int) := if t0.length ≤ 1000000 then some t0 else none
def slices_Clone_int_int_c (n : Nat) : Con := mkCon [.val (.list (.int .i64))] [.own (.int .i64)] (fun x => slices_Clone_int_int n x.1)
theorem slices_Clone_int_int_m (n : Nat) : Meets Try.prog 27 (slices_Clone_int_int_c n) := clone_meets (fun b off n c zs w h1 h2 h3 => Try.slices_Clone_int b off n c zs w h1 h2 h3) (fun n c w => Try.slices_Clone_int_nil n c w) fun a c w => Try.slices_Clone_int_zero a c w
end Go.PrS
