/- What functions of the program come to, as plain functions, and that they keep these contracts. No conditions beyond each theorem's own. -/
import Derived.Test.YtmbkpnhmeljcgaaE4
import Derived.Test.YtmbkpnhmeljcgaaProg
import Derived.KernelRfl
set_option linter.unusedVariables false
set_option linter.unusedSimpArgs false
noncomputable section
namespace Go.PrC
open Go Go.Ev Go.Proofs
local instance (priority := high) strictI : Str := ⟨true⟩
noncomputable abbrev Y_api_Dep : Ty := (.pair (.int .i64) (.pair (.int .i64) (.pair (.int .i64) .unit)))
abbrev L_api_Dep : Type := (Int × (Int × (Int × Unit)))
noncomputable def T_ : List (Nat × Ty) := [(3, (.int .i64)), (31, (.list (.int .i64))), (37, Y_api_Dep)]
noncomputable def A_ : List Nat := []
noncomputable def N_ : List Nat := []
theorem tabs : (∀ t ty, lookT T_ t = some ty → TyOK Try.prog (memN t A_) t ty) ∧ ∀ t, memN t N_ = true → FnTyOK Try.prog t := tab_ok (by kernel_rfl) (by kernel_rfl)
theorem mixed : Try.prog.follows .mixedOrders = true := by kernel_rfl
theorem fok64 : FnOK Try.prog 64 := ⟨Try.f64, Try.func64, by kernel_rfl, by kernel_rfl⟩
theorem fok41 : FnOK Try.prog 41 := ⟨Try.f41, Try.func41, by kernel_rfl, by kernel_rfl⟩
theorem fok40 : FnOK Try.prog 40 := ⟨Try.f40, Try.func40, by kernel_rfl, by kernel_rfl⟩
theorem fok18 : FnOK Try.prog 18 := ⟨Try.f18, Try.func18, by kernel_rfl, by kernel_rfl⟩
/-! 64 cmp.isNaN[int] -/
noncomputable def cmp_isNaN_int (n : Nat) (t0 : Int) : Option Bool :=
 some (t0 != t0)
noncomputable def cmp_isNaN_int_e (n : Nat) : Env := mkEnv T_ A_ N_ [] [] 6
noncomputable def cmp_isNaN_int_c (n : Nat) : Con := mkCon [(.val (.int .i64))] [(.val .bool)] (fun x => cmp_isNaN_int n x.1)
theorem cmp_isNaN_int_ok (n : Nat) : EnvOK Try.prog (cmp_isNaN_int_e n) := mkEnv_ok tabs trivial
theorem cmp_isNaN_int_m (n : Nat) : Meets Try.prog 64 (cmp_isNaN_int_c n) :=
 con_meets (l := []) mixed Try.func64 (by kernel_rfl) (cmp_isNaN_int_ok n) (by kernel_rfl) (by kernel_rfl) (by kernel_rfl) trivial (fun x => by kernel_rfl)
/-! 41 cmp.Compare[int] -/
noncomputable def cmp_Compare_int (n : Nat) (t0 : Int) (t1 : Int) : Option Int :=
 (cmp_isNaN_int n t0).bind fun r0 =>
  (cmp_isNaN_int n t1).bind fun r1 =>
   if (r0 = true) then
    if (r1 = true) then
     some 0
    else some (-1)
   else if (r1 = true) then
    some 1
   else if (decide (t0 < t1) = true) then
    some (-1)
   else if (decide (t0 > t1) = true) then
    some 1
   else some 0
noncomputable def cmp_Compare_int_e (n : Nat) : Env := mkEnv T_ A_ N_ [(64, cmp_isNaN_int_c n)] [] 20
noncomputable def cmp_Compare_int_c (n : Nat) : Con := mkCon [(.val (.int .i64)), (.val (.int .i64))] [(.val (.int .i64))] (fun x => cmp_Compare_int n x.1 x.2.1)
theorem cmp_Compare_int_ok (n : Nat) : EnvOK Try.prog (cmp_Compare_int_e n) := mkEnv_ok tabs ⟨⟨cmp_isNaN_int_m n, fok64⟩, trivial⟩
theorem cmp_Compare_int_m (n : Nat) : Meets Try.prog 41 (cmp_Compare_int_c n) :=
 con_meets (l := []) mixed Try.func41 (by kernel_rfl) (cmp_Compare_int_ok n) (by kernel_rfl) (by kernel_rfl) (by kernel_rfl) trivial (fun x => by kernel_rfl)
/-! 40 cmp.Or[int] -/
noncomputable def cmp_Or_int_l3 : Nat → Int → (List Int) → Int → Int → Option (Sum Unit Int)
 | 0, _, _, _, _ => none
 | n + 1, t3, t6, t7, t8 =>
  if (decide (t8 < t7) = true) then
   if ((0 ≤ t8) ∧ (t8 < (t6.length : Int))) then
    if (((t6.getD t8.toNat 0) != t3) = true) then
     some (.inr (t6.getD t8.toNat 0))
    else (cmp_Or_int_l3 n t3 t6 t7 (IntKind.wrap .i64 (t8 + 1)))
   else none
  else some (.inl ())
noncomputable def cmp_Or_int (n : Nat) (t0 : (List Int)) : Option Int :=
 (cmp_Or_int_l3 n 0 t0 (t0.length : Int) 0).bind fun r0 =>
  match r0 with
   | .inl r1 =>
    some 0
   | .inr r1 =>
    some r1
noncomputable def cmp_Or_int_l3_h : Sh := ⟨[(3, (.val (.int .i64))), (6, (.val (.list (.int .i64)))), (7, (.val (.int .i64)))], [(8, (.val (.int .i64)))], [2, 5, 8, 9, 10, 11, 12, 13, 14, 15, 16], [⟨.exit 0, []⟩, ⟨.ret, [(2, (.val (.int .i64)))]⟩]⟩
noncomputable def cmp_Or_int_l3_F (n : Nat) : cmp_Or_int_l3_h.Fn := fun x y => cmp_Or_int_l3 n x.1 x.2.1 x.2.2.1 y.1
noncomputable def cmp_Or_int_l3_k (n : Nat) : Cut := cmp_Or_int_l3_h.cut (cmp_Or_int_l3_F n)
noncomputable def cmp_Or_int_e (n : Nat) : Env := mkEnv T_ A_ N_ [] [((0, 3, 7), cmp_Or_int_l3_k n)] 18
noncomputable def cmp_Or_int_c (n : Nat) : Con := mkCon [(.val (.list (.int .i64)))] [(.val (.int .i64))] (fun x => cmp_Or_int n x.1)
theorem cmp_Or_int_ok (n : Nat) : EnvOK Try.prog (cmp_Or_int_e n) := mkEnv_ok tabs trivial
theorem cmp_Or_int_l3_m (n : Nat) : CutMeets Try.prog (.loop (codeAt [1, 1, 0, 1, 0, 0] (bodyOf Try.f40))) 18 (cmp_Or_int_l3_k n) :=
 loop_ok cmp_Or_int_l3_h cmp_Or_int_l3_F (E := cmp_Or_int_e) (l := fun n => []) mixed (fun _ => rfl) cmp_Or_int_ok (by kernel_rfl) (fun _ => by kernel_rfl) (fun n => trivial) (fun _ _ => rfl) (fun n x y => by kernel_rfl) n
theorem cmp_Or_int_m (n : Nat) : Meets Try.prog 40 (cmp_Or_int_c n) :=
 con_meets (l := [(Code.loop (codeAt [1, 1, 0, 1, 0, 0] (bodyOf Try.f40)), cmp_Or_int_l3_k n)]) mixed Try.func40 (by kernel_rfl) (cmp_Or_int_ok n) (by kernel_rfl) (by kernel_rfl) (by kernel_rfl) ⟨cmp_Or_int_l3_m n, trivial⟩ (fun x => by kernel_rfl)
/-! 18 lockstep/dep.compare -/
noncomputable def dep_compare (n : Nat) (t0 : L_api_Dep) (t1 : L_api_Dep) : Option Int :=
 (cmp_Compare_int n t0.1 t1.1).bind fun r0 =>
  (cmp_Compare_int n t0.2.1 t1.2.1).bind fun r1 =>
   (cmp_Compare_int n t0.2.2.1 t1.2.2.1).bind fun r2 =>
    (cmp_Or_int n ([r0, r1, r2])).bind fun r3 =>
     some r3
noncomputable def dep_compare_e (n : Nat) : Env := mkEnv T_ A_ N_ [(41, cmp_Compare_int_c n), (40, cmp_Or_int_c n)] [] 22
noncomputable def dep_compare_c (n : Nat) : Con := mkCon [(.val Y_api_Dep), (.val Y_api_Dep)] [(.val (.int .i64))] (fun x => dep_compare n x.1 x.2.1)
theorem dep_compare_ok (n : Nat) : EnvOK Try.prog (dep_compare_e n) := mkEnv_ok tabs ⟨⟨cmp_Compare_int_m n, fok41⟩, ⟨cmp_Or_int_m n, fok40⟩, trivial⟩
theorem dep_compare_m (n : Nat) : Meets Try.prog 18 (dep_compare_c n) :=
 con_meets (l := []) mixed Try.func18 (by kernel_rfl) (dep_compare_ok n) (by kernel_rfl) (by kernel_rfl) (by kernel_rfl) trivial (fun x => by kernel_rfl)
end Go.PrC
