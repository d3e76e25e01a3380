/- The contracts of slices.Sort, slices.SortFunc and slices.Compact at numbers, as the printed functions name them. Conditions: none. -/
import Derived.Test.YtmbkpnhmeljcgaaE5
import Derived.Test.YtmbkpnhmeljcgaaSrt
import Derived.Test.YtmbkpnhmeljcgaaSf
import Derived.Test.YtmbkpnhmeljcgaaSrf
set_option linter.unusedVariables false
set_option linter.unusedSimpArgs false
noncomputable section
namespace Go.PrS
open Go Go.Ev Go.Proofs
def slices_Sort_int_int (_n : Nat) (t0 : List Int) : Option (List Int) := if t0.length < 4611686018427387904 then some (isort t0) else none
def slices_Sort_int_int_c (n : Nat) : Con := mkCon [.ip (.int .i64)] [] (fun x => slices_Sort_int_int n x.1)
theorem slices_Sort_int_int_m (n : Nat) : Meets Try.prog 24 (slices_Sort_int_int_c n) := sort_meets fun blk off cap zs w h1 h2 h3 => Try.slices_Sort_int blk off cap zs w h1 h2 h3
def slices_Sort_int_int_f24 (_n : Nat) (t0 : List Int) : Option Unit := if t0.length = 0 then some () else none
def slices_Sort_int_int_f24_c (n : Nat) : Con := mkCon [.val (.list (.int .i64))] [] (fun x => slices_Sort_int_int_f24 n x.1)
theorem slices_Sort_int_int_f24_m (n : Nat) : Meets Try.prog 24 (slices_Sort_int_int_f24_c n) := sort_empty_meets fun a cap w => Try.slices_Sort_int_none a cap w
theorem compact_le (zs : List Int) : (Lib.compact zs).length ≤ zs.length := by
  unfold Lib.compact Lib.compactUpTo
  rw [List.length_map]
  exact Nat.le_trans (List.length_filter_le _ _) (by simp)
def slices_Compact_int_int (_n : Nat) (t0 : List Int) : Option (List Int) := if t0.length ≤ 9223372036854775807 then some (Lib.compact t0) else none
def slices_Compact_int_int_c (n : Nat) : Con := mkCon [.mv (.int .i64)] [.own (.int .i64)] (fun x => slices_Compact_int_int n x.1)
theorem slices_Compact_int_int_m (n : Nat) : Meets Try.prog 25 (slices_Compact_int_int_c n) :=
  compact_meets compact_le (fun blk off cap zs w h1 h2 h3 => Try.slices_Compact_int blk off cap zs w h1 h2 h3) fun a cap w => Try.slices_Compact_int_empty a cap w
def slices_Clone_int_int (_n : Nat) (t0 : List Int) : Option (List Int) := if t0.length ≤ 1000000 then some t0 else none
def slices_Clone_int_int_c (n : Nat) : Con := mkCon [.val (.list (.int .i64))] [.own (.int .i64)] (fun x => slices_Clone_int_int n x.1)
theorem slices_Clone_int_int_m (n : Nat) : Meets Try.prog 31 (slices_Clone_int_int_c n) := clone_meets (fun b off n c zs w h1 h2 h3 => Try.slices_Clone_int b off n c zs w h1 h2 h3) (fun n c w => Try.slices_Clone_int_nil n c w) fun a c w => Try.slices_Clone_int_zero a c w
def slices_SortFunc_api_Dep_api_Dep_dep_compare (_n : Nat) (t0 : List PrD.Dep) (_ : Unit) : Option (List PrD.Dep) := if t0.length < 4611686018427387904 then some (PrD.isort t0) else none
def slices_SortFunc_api_Dep_api_Dep_dep_compare_c (n : Nat) : Con := mkCon [.ip PrD.tDep, .func 18 0 .unit] [] (fun x => slices_SortFunc_api_Dep_api_Dep_dep_compare n x.1 x.2.1)
theorem slices_SortFunc_api_Dep_api_Dep_dep_compare_m (n : Nat) : Meets Try.prog 17 (slices_SortFunc_api_Dep_api_Dep_dep_compare_c n) := PrD.sortf_meets fun blk off cap xs w h1 h2 h3 => PrD.sortf_calls blk off cap xs w h1 h2 h3
def slices_SortFunc_api_Dep_api_Dep_dep_compare_f17 (_n : Nat) (t0 : List PrD.Dep) (_ : Unit) : Option Unit := if t0.length = 0 then some () else none
def slices_SortFunc_api_Dep_api_Dep_dep_compare_f17_c (n : Nat) : Con := mkCon [.val (.list PrD.tDep), .func 18 0 .unit] [] (fun x => slices_SortFunc_api_Dep_api_Dep_dep_compare_f17 n x.1 x.2.1)
theorem slices_SortFunc_api_Dep_api_Dep_dep_compare_f17_m (n : Nat) : Meets Try.prog 17 (slices_SortFunc_api_Dep_api_Dep_dep_compare_f17_c n) := PrD.sortf_empty_meets fun a cap fv w => PrD.sortf_none a cap fv w
end Go.PrS
