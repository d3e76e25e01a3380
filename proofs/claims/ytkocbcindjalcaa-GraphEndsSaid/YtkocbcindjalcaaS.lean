/- What functions of the program come to, as plain functions, and that they keep these contracts. No conditions beyond each theorem's own. -/
import Derived.Test.YtkocbcindjalcaaE4
import Derived.Test.YtkocbcindjalcaaGiv
import Derived.Test.YtkocbcindjalcaaProg
import Derived.KernelRfl
set_option linter.unusedVariables false
set_option linter.unusedSimpArgs false
noncomputable section
namespace Go.PrS
open Go Go.Ev Go.Proofs
noncomputable abbrev Y_api_End : Ty := (.pair (.int .i64) (.pair (.int .i64) (.pair (.list (.int .i64)) .unit)))
abbrev L_api_End : Type := (Int × (Int × ((List Int) × Unit)))
noncomputable abbrev Y_api_Graph : Ty := (.pair (.list (.list (.int .i64))) (.pair (.list (.list (.int .i64))) .unit))
abbrev L_api_Graph : Type := ((List (List Int)) × ((List (List Int)) × Unit))
noncomputable abbrev Y_api_Phi : Ty := (.pair (.int .i64) (.pair (.int .i64) (.pair (.list (.int .i64)) (.pair (.list (.int .i64)) .unit))))
abbrev L_api_Phi : Type := (Int × (Int × ((List Int) × ((List Int) × Unit))))
noncomputable abbrev Y_api_Op : Ty := (.pair (.int .i64) (.pair (.int .i64) (.pair (.int .i64) (.pair (.int .i64) (.pair (.list (.int .i64)) (.pair (.int .u64) .unit))))))
abbrev L_api_Op : Type := (Int × (Int × (Int × (Int × ((List Int) × (Int × Unit))))))
noncomputable abbrev Y_api_Block : Ty := (.pair (.list Y_api_Phi) (.pair (.list Y_api_Op) (.pair Y_api_End .unit)))
abbrev L_api_Block : Type := ((List L_api_Phi) × ((List L_api_Op) × (L_api_End × Unit)))
noncomputable abbrev Y_api_Func : Ty := (.pair (.list (.int .i64)) (.pair (.int .i64) (.pair (.list Y_api_Block) .unit)))
abbrev L_api_Func : Type := ((List Int) × (Int × ((List L_api_Block) × Unit)))
noncomputable def T_ : List (Nat × Ty) := [(22, (.list (.int .i64))), (3, (.int .i64)), (28, (.list (.list (.int .i64)))), (30, Y_api_Graph), (31, (.int .i64)), (67, (.arr 64 .bool)), (68, (.arr 64 (.int .i64))), (4, .bool), (25, Y_api_Func), (23, (.list Y_api_Block)), (47, Y_api_Block), (39, Y_api_End), (45, (.list Y_api_Phi)), (53, Y_api_Phi), (44, (.list Y_api_Op)), (43, Y_api_Op), (75, (.int .u64)), (36, (.list (.int .u8))), (37, (.list (.pair (.int .u8) (.pair (.int .u8) .unit)))), (5, (.int .u8)), (40, (.pair (.int .u8) (.pair (.int .u8) .unit)))]
noncomputable def A_ : List Nat := [40]
noncomputable def N_ : List Nat := [65, 62, 56, 60]
theorem tabs : (∀ t ty, lookT T_ t = some ty → TyOK Try.prog (memN t A_) t ty) ∧ ∀ t, memN t N_ = true → FnTyOK Try.prog t := tab_ok (by kernel_rfl) (by kernel_rfl)
theorem mixed : Try.prog.follows .mixedOrders = true := by kernel_rfl
theorem fok26 : FnOK Try.prog 26 := ⟨Try.f26, Try.func26, by kernel_rfl, by kernel_rfl⟩
theorem fok25 : FnOK Try.prog 25 := ⟨Try.f25, Try.func25, by kernel_rfl, by kernel_rfl⟩
theorem fok34 : FnOK Try.prog 34 := ⟨Try.f34, Try.func34, by kernel_rfl, by kernel_rfl⟩
theorem fok24 : FnOK Try.prog 24 := ⟨Try.f24, Try.func24, by kernel_rfl, by kernel_rfl⟩
theorem fok27 : FnOK Try.prog 27 := ⟨Try.f27, Try.func27, by kernel_rfl, by kernel_rfl⟩
theorem fok28 : FnOK Try.prog 28 := ⟨Try.f28, Try.func28, by kernel_rfl, by kernel_rfl⟩
theorem fok12 : FnOK Try.prog 12 := ⟨Try.f12, Try.func12, by kernel_rfl, by kernel_rfl⟩
theorem fok23 : FnOK Try.prog 23 := ⟨Try.f23, Try.func23, by kernel_rfl, by kernel_rfl⟩
theorem fok22 : FnOK Try.prog 22 := ⟨Try.f22, Try.func22, by kernel_rfl, by kernel_rfl⟩
theorem fok10 : FnOK Try.prog 10 := ⟨Try.f10, Try.func10, by kernel_rfl, by kernel_rfl⟩
theorem fok29 : FnOK Try.prog 29 := ⟨Try.f29, Try.func29, by kernel_rfl, by kernel_rfl⟩
theorem fok13 : FnOK Try.prog 13 := ⟨Try.f13, Try.func13, by kernel_rfl, by kernel_rfl⟩
theorem fok5 : FnOK Try.prog 5 := ⟨Try.f5, Try.func5, by kernel_rfl, by kernel_rfl⟩
theorem fok6 : FnOK Try.prog 6 := ⟨Try.f6, Try.func6, by kernel_rfl, by kernel_rfl⟩
theorem fok14 : FnOK Try.prog 14 := ⟨Try.f14, Try.func14, by kernel_rfl, by kernel_rfl⟩
theorem fok16 : FnOK Try.prog 16 := ⟨Try.f16, Try.func16, by kernel_rfl, by kernel_rfl⟩
theorem fok30 : FnOK Try.prog 30 := ⟨Try.f30, Try.func30, by kernel_rfl, by kernel_rfl⟩
theorem fok15 : FnOK Try.prog 15 := ⟨Try.f15, Try.func15, by kernel_rfl, by kernel_rfl⟩
theorem fok19 : FnOK Try.prog 19 := ⟨Try.f19, Try.func19, by kernel_rfl, by kernel_rfl⟩
theorem fok31 : FnOK Try.prog 31 := ⟨Try.f31, Try.func31, by kernel_rfl, by kernel_rfl⟩
theorem fok32 : FnOK Try.prog 32 := ⟨Try.f32, Try.func32, by kernel_rfl, by kernel_rfl⟩
theorem fok18 : FnOK Try.prog 18 := ⟨Try.f18, Try.func18, by kernel_rfl, by kernel_rfl⟩
theorem fok17 : FnOK Try.prog 17 := ⟨Try.f17, Try.func17, by kernel_rfl, by kernel_rfl⟩
theorem fok7 : FnOK Try.prog 7 := ⟨Try.f7, Try.func7, by kernel_rfl, by kernel_rfl⟩
theorem fok11 : FnOK Try.prog 11 := ⟨Try.f11, Try.func11, by kernel_rfl, by kernel_rfl⟩
theorem fok20 : FnOK Try.prog 20 := ⟨Try.f20, Try.func20, by kernel_rfl, by kernel_rfl⟩
theorem fok8 : FnOK Try.prog 8 := ⟨Try.f8, Try.func8, by kernel_rfl, by kernel_rfl⟩
theorem fok21 : FnOK Try.prog 21 := ⟨Try.f21, Try.func21, by kernel_rfl, by kernel_rfl⟩
theorem fok9 : FnOK Try.prog 9 := ⟨Try.f9, Try.func9, by kernel_rfl, by kernel_rfl⟩
theorem fok3 : FnOK Try.prog 3 := ⟨Try.f3, Try.func3, by kernel_rfl, by kernel_rfl⟩
theorem fok4 : FnOK Try.prog 4 := ⟨Try.f4, Try.func4, by kernel_rfl, by kernel_rfl⟩
/-! 26 lockstep/graph.rising -/
noncomputable def graph_rising_l3 : Nat → Int → (List Int) → Int → Int → Int → Option (Sum Unit Bool)
 | 0, _, _, _, _, _ => none
 | n + 1, t1, t8, t9, t5, t10 =>
  if (decide (t10 < t9) = true) then
   if ((0 ≤ t10) ∧ (t10 < (t8.length : Int))) then
    if (decide ((t8.getD t10.toNat 0) ≤ t5) = false) then
     if (decide ((t8.getD t10.toNat 0) ≥ t1) = true) then
      some (.inr false)
     else (graph_rising_l3 n t1 t8 t9 (t8.getD t10.toNat 0) (IntKind.wrap .i64 (t10 + 1)))
    else some (.inr false)
   else none
  else some (.inl ())
noncomputable def graph_rising (n : Nat) (t0 : (List Int)) (t1 : Int) : Option Bool :=
 (graph_rising_l3 n t1 t0 (t0.length : Int) (-1) 0).bind fun r0 =>
  match r0 with
   | .inl r1 =>
    some true
   | .inr r1 =>
    some r1
noncomputable def graph_rising_l3_h : Sh := ⟨[(1, (.val (.int .i64))), (8, (.val (.list (.int .i64)))), (9, (.val (.int .i64)))], [(5, (.val (.int .i64))), (10, (.val (.int .i64)))], [4, 5, 7, 10, 11, 12, 13, 14, 15, 16, 17, 18, 19, 20, 21, 22, 23], [⟨.exit 0, []⟩, ⟨.ret, [(4, (.val .bool))]⟩]⟩
noncomputable def graph_rising_l3_F (n : Nat) : graph_rising_l3_h.Fn := fun x y => graph_rising_l3 n x.1 x.2.1 x.2.2.1 y.1 y.2.1
noncomputable def graph_rising_l3_k (n : Nat) : Cut := graph_rising_l3_h.cut (graph_rising_l3_F n)
noncomputable def graph_rising_e (n : Nat) : Env := mkEnv T_ A_ N_ [] [((0, 3, 8), graph_rising_l3_k n)] 24
noncomputable def graph_rising_c (n : Nat) : Con := mkCon [(.val (.list (.int .i64))), (.val (.int .i64))] [(.val .bool)] (fun x => graph_rising n x.1 x.2.1)
theorem graph_rising_ok (n : Nat) : EnvOK Try.prog (graph_rising_e n) := mkEnv_ok tabs trivial
theorem graph_rising_l3_m (n : Nat) : CutMeets Try.prog (.loop (codeAt [1, 1, 0, 1, 0, 0] (bodyOf Try.f26))) 24 (graph_rising_l3_k n) :=
 loop_ok graph_rising_l3_h graph_rising_l3_F (E := graph_rising_e) (l := fun n => []) mixed (fun _ => rfl) graph_rising_ok (by kernel_rfl) (fun _ => by kernel_rfl) (fun n => trivial) (fun _ _ => rfl) (fun n x y => by kernel_rfl) n
theorem graph_rising_m (n : Nat) : Meets Try.prog 26 (graph_rising_c n) :=
 con_meets (l := [(Code.loop (codeAt [1, 1, 0, 1, 0, 0] (bodyOf Try.f26)), graph_rising_l3_k n)]) mixed Try.func26 (by kernel_rfl) (graph_rising_ok n) (by kernel_rfl) (by kernel_rfl) (by kernel_rfl) ⟨graph_rising_l3_m n, trivial⟩ (fun x => by kernel_rfl)
/-! 25 lockstep/graph.Make$1 -/
noncomputable def graph_Make_1 (n : Nat) (t0 : (List Int)) (t1 : Int) : Option (Bool × Int) :=
 (graph_rising n t0 t1).bind fun r0 =>
  some ((!r0), t1)
noncomputable def graph_Make_1_e (n : Nat) : Env := mkEnv T_ A_ N_ [(26, graph_rising_c n)] [] 8
noncomputable def graph_Make_1_c (n : Nat) : Con := mkCon [(.val (.list (.int .i64))), (.box (.val (.int .i64)))] [(.val .bool)] (fun x => graph_Make_1 n x.1 x.2.1)
theorem graph_Make_1_ok (n : Nat) : EnvOK Try.prog (graph_Make_1_e n) := mkEnv_ok tabs ⟨⟨graph_rising_m n, fok26⟩, trivial⟩
theorem graph_Make_1_m (n : Nat) : Meets Try.prog 25 (graph_Make_1_c n) :=
 con_meets (l := []) mixed Try.func25 (by kernel_rfl) (graph_Make_1_ok n) (by kernel_rfl) (by kernel_rfl) (by kernel_rfl) trivial (fun x => by kernel_rfl)
/-! 34 slices.IndexFunc[[][]int,[]int] -/
noncomputable def slices_IndexFunc_int_int_graph_Make_1_l2 : Nat → (List (List Int)) → (Int × Unit) → Int → Int → Option (Sum (Int × Unit) (Int × (Int × Unit)))
 | 0, _, _, _, _ => none
 | n + 1, t0, t1, t7, t8 =>
  if (decide (t8 < t7) = true) then
   if ((0 ≤ t8) ∧ (t8 < (t0.length : Int))) then
    (graph_Make_1 n (t0.getD t8.toNat []) t1.1).bind fun r0 =>
     if (r0.1 = true) then
      some (.inr (t8, r0.2, ()))
     else (slices_IndexFunc_int_int_graph_Make_1_l2 n t0 (r0.2, ()) t7 (IntKind.wrap .i64 (t8 + 1)))
   else none
  else some (.inl t1)
noncomputable def slices_IndexFunc_int_int_graph_Make_1 (n : Nat) (t0 : (List (List Int))) (t1 : (Int × Unit)) : Option (Int × (Int × Unit)) :=
 (slices_IndexFunc_int_int_graph_Make_1_l2 n t0 t1 (t0.length : Int) 0).bind fun r0 =>
  match r0 with
   | .inl r1 =>
    some ((-1), r1)
   | .inr r1 =>
    some r1
noncomputable def slices_IndexFunc_int_int_graph_Make_1_l2_h : Sh := ⟨[(0, (.val (.list (.list (.int .i64))))), (1, (.func 25 0 (.pair (.box (.val (.int .i64))) .unit))), (7, (.val (.int .i64)))], [(8, (.val (.int .i64)))], [4, 5, 8, 9, 10, 11, 12, 13, 14, 15, 16, 17, 18], [⟨.exit 0, []⟩, ⟨.ret, [(4, (.val (.int .i64)))]⟩]⟩
noncomputable def slices_IndexFunc_int_int_graph_Make_1_l2_F (n : Nat) : slices_IndexFunc_int_int_graph_Make_1_l2_h.Fn := fun x y => slices_IndexFunc_int_int_graph_Make_1_l2 n x.1 x.2.1 x.2.2.1 y.1
noncomputable def slices_IndexFunc_int_int_graph_Make_1_l2_k (n : Nat) : Cut := slices_IndexFunc_int_int_graph_Make_1_l2_h.cut (slices_IndexFunc_int_int_graph_Make_1_l2_F n)
noncomputable def slices_IndexFunc_int_int_graph_Make_1_e (n : Nat) : Env := mkEnv T_ A_ N_ [(25, graph_Make_1_c n)] [((0, 2, 6), slices_IndexFunc_int_int_graph_Make_1_l2_k n)] 19
noncomputable def slices_IndexFunc_int_int_graph_Make_1_c (n : Nat) : Con := mkCon [(.val (.list (.list (.int .i64)))), (.func 25 0 (.pair (.box (.val (.int .i64))) .unit))] [(.val (.int .i64))] (fun x => slices_IndexFunc_int_int_graph_Make_1 n x.1 x.2.1)
theorem slices_IndexFunc_int_int_graph_Make_1_ok (n : Nat) : EnvOK Try.prog (slices_IndexFunc_int_int_graph_Make_1_e n) := mkEnv_ok tabs ⟨⟨graph_Make_1_m n, fok25⟩, trivial⟩
theorem slices_IndexFunc_int_int_graph_Make_1_l2_m (n : Nat) : CutMeets Try.prog (.loop (codeAt [1, 0, 1, 0, 0] (bodyOf Try.f34))) 19 (slices_IndexFunc_int_int_graph_Make_1_l2_k n) :=
 loop_ok slices_IndexFunc_int_int_graph_Make_1_l2_h slices_IndexFunc_int_int_graph_Make_1_l2_F (E := slices_IndexFunc_int_int_graph_Make_1_e) (l := fun n => []) mixed (fun _ => rfl) slices_IndexFunc_int_int_graph_Make_1_ok (by kernel_rfl) (fun _ => by kernel_rfl) (fun n => trivial) (fun _ _ => rfl) (fun n x y => by kernel_rfl) n
theorem slices_IndexFunc_int_int_graph_Make_1_m (n : Nat) : Meets Try.prog 34 (slices_IndexFunc_int_int_graph_Make_1_c n) :=
 con_meets (l := [(Code.loop (codeAt [1, 0, 1, 0, 0] (bodyOf Try.f34)), slices_IndexFunc_int_int_graph_Make_1_l2_k n)]) mixed Try.func34 (by kernel_rfl) (slices_IndexFunc_int_int_graph_Make_1_ok n) (by kernel_rfl) (by kernel_rfl) (by kernel_rfl) ⟨slices_IndexFunc_int_int_graph_Make_1_l2_m n, trivial⟩ (fun x => by kernel_rfl)
/-! 24 slices.ContainsFunc[[][]int,[]int] -/
noncomputable def slices_ContainsFunc_int_int_graph_Make_1 (n : Nat) (t0 : (List (List Int))) (t1 : (Int × Unit)) : Option (Bool × (Int × Unit)) :=
 (slices_IndexFunc_int_int_graph_Make_1 n t0 t1).bind fun r0 =>
  some (decide (r0.1 ≥ 0), r0.2)
noncomputable def slices_ContainsFunc_int_int_graph_Make_1_e (n : Nat) : Env := mkEnv T_ A_ N_ [(25, graph_Make_1_c n), (34, slices_IndexFunc_int_int_graph_Make_1_c n)] [] 9
noncomputable def slices_ContainsFunc_int_int_graph_Make_1_c (n : Nat) : Con := mkCon [(.val (.list (.list (.int .i64)))), (.func 25 0 (.pair (.box (.val (.int .i64))) .unit))] [(.val .bool)] (fun x => slices_ContainsFunc_int_int_graph_Make_1 n x.1 x.2.1)
theorem slices_ContainsFunc_int_int_graph_Make_1_ok (n : Nat) : EnvOK Try.prog (slices_ContainsFunc_int_int_graph_Make_1_e n) := mkEnv_ok tabs ⟨⟨graph_Make_1_m n, fok25⟩, ⟨slices_IndexFunc_int_int_graph_Make_1_m n, fok34⟩, trivial⟩
theorem slices_ContainsFunc_int_int_graph_Make_1_m (n : Nat) : Meets Try.prog 24 (slices_ContainsFunc_int_int_graph_Make_1_c n) :=
 con_meets (l := []) mixed Try.func24 (by kernel_rfl) (slices_ContainsFunc_int_int_graph_Make_1_ok n) (by kernel_rfl) (by kernel_rfl) (by kernel_rfl) trivial (fun x => by kernel_rfl)
/- slices_Clone_int_int : Nat → (List Int) → Option (List Int) is given by hand: slices_Clone_int_int, slices_Clone_int_int_c, slices_Clone_int_int_m -/
/-! 28 lockstep/graph.preds -/
noncomputable def graph_preds_l6 : Nat → Int → (List (List Int)) → Int → Int → (List Int) → Int → (List (List Int)) → Int → Option (List (List Int))
 | 0, _, _, _, _, _, _, _, _ => none
 | n + 1, t4, t11, t12, t13, t18, t19, t3, t20 =>
  if (decide (t20 < t19) = true) then
   if ((0 ≤ t20) ∧ (t20 < (t18.length : Int))) then
    if ((0 ≤ (t18.getD t20.toNat 0)) ∧ ((t18.getD t20.toNat 0) < (t3.length : Int))) then
     if (((t3.getD ((t18.getD t20.toNat 0).toNat) []) ++ [t4]).length ≤ Ev.most) then
      if ((0 ≤ (t18.getD t20.toNat 0)) ∧ ((t18.getD t20.toNat 0) < (t3.length : Int))) then
       if ((t18.getD t20.toNat 0).toNat = (t18.getD t20.toNat 0).toNat) then
        (graph_preds_l6 n t4 t11 t12 t13 t18 t19 (t3.set ((t18.getD t20.toNat 0).toNat) ((t3.getD ((t18.getD t20.toNat 0).toNat) []) ++ [t4])) (IntKind.wrap .i64 (t20 + 1)))
       else none
      else none
     else none
    else none
   else none
  else some t3
noncomputable def graph_preds_l3 : Nat → (List (List Int)) → Int → (List (List Int)) → Int → Option (List (List Int))
 | 0, _, _, _, _ => none
 | n + 1, t11, t12, t3, t13 =>
  if (decide (t13 < t12) = true) then
   if ((0 ≤ t13) ∧ (t13 < (t11.length : Int))) then
    (graph_preds_l6 n t13 t11 t12 t13 (t11.getD t13.toNat []) ((t11.getD t13.toNat []).length : Int) t3 0).bind fun r0 =>
     (graph_preds_l3 n t11 t12 r0 (IntKind.wrap .i64 (t13 + 1)))
   else none
  else some t3
noncomputable def graph_preds (n : Nat) (t0 : (List (List Int))) : Option (List (List Int)) :=
 if ((0 ≤ (t0.length : Int)) ∧ (((t0.length : Int) ≤ (t0.length : Int)) ∧ ((t0.length : Int) ≤ 8589934592))) then
  (graph_preds_l3 n t0 (t0.length : Int) (List.replicate ((t0.length : Int).toNat) []) 0).bind fun r0 =>
   some r0
 else none
noncomputable def graph_preds_l6_h : Sh := ⟨[(4, (.val (.int .i64))), (11, (.val (.list (.list (.int .i64))))), (12, (.val (.int .i64))), (13, (.val (.int .i64))), (18, (.val (.list (.int .i64)))), (19, (.val (.int .i64)))], [(3, (.rows (.int .i64))), (20, (.val (.int .i64)))], [3, 7, 20, 21, 22, 23, 24, 25, 26, 27, 28, 29, 30, 31, 32, 33, 34], [⟨.exit 2, [(3, (.rows (.int .i64)))]⟩]⟩
noncomputable def graph_preds_l6_F (n : Nat) : graph_preds_l6_h.Fn := fun x y => graph_preds_l6 n x.1 x.2.1 x.2.2.1 x.2.2.2.1 x.2.2.2.2.1 x.2.2.2.2.2.1 y.1 y.2.1
noncomputable def graph_preds_l6_k (n : Nat) : Cut := graph_preds_l6_h.cut (graph_preds_l6_F n)
noncomputable def graph_preds_l3_h : Sh := ⟨[(11, (.val (.list (.list (.int .i64))))), (12, (.val (.int .i64)))], [(3, (.rows (.int .i64))), (13, (.val (.int .i64)))], [3, 4, 5, 7, 13, 14, 15, 16, 17, 18, 19, 20, 21, 22, 23, 24, 25, 26, 27, 28, 29, 30, 31, 32, 33, 34, 35], [⟨.exit 0, [(3, (.rows (.int .i64)))]⟩]⟩
noncomputable def graph_preds_l3_F (n : Nat) : graph_preds_l3_h.Fn := fun x y => graph_preds_l3 n x.1 x.2.1 y.1 y.2.1
noncomputable def graph_preds_l3_k (n : Nat) : Cut := graph_preds_l3_h.cut (graph_preds_l3_F n)
noncomputable def graph_preds_e (n : Nat) : Env := mkEnv T_ A_ N_ [] [((0, 6, 9), graph_preds_l6_k n), ((0, 3, 10), graph_preds_l3_k n)] 37
noncomputable def graph_preds_c (n : Nat) : Con := mkCon [(.val (.list (.list (.int .i64))))] [(.val (.list (.list (.int .i64))))] (fun x => graph_preds n x.1)
theorem graph_preds_ok (n : Nat) : EnvOK Try.prog (graph_preds_e n) := mkEnv_ok tabs trivial
theorem graph_preds_l6_m (n : Nat) : CutMeets Try.prog (.loop (codeAt [1, 1, 0, 1, 0, 0, 1, 1, 0, 0, 1, 1, 0, 0] (bodyOf Try.f28))) 37 (graph_preds_l6_k n) :=
 loop_ok graph_preds_l6_h graph_preds_l6_F (E := graph_preds_e) (l := fun n => []) mixed (fun _ => rfl) graph_preds_ok (by kernel_rfl) (fun _ => by kernel_rfl) (fun n => trivial) (fun _ _ => rfl) (fun n x y => by kernel_rfl) n
theorem graph_preds_l3_m (n : Nat) : CutMeets Try.prog (.loop (codeAt [1, 1, 0, 1, 0, 0] (bodyOf Try.f28))) 37 (graph_preds_l3_k n) :=
 loop_ok graph_preds_l3_h graph_preds_l3_F (E := graph_preds_e) (l := fun n => [(Code.loop (codeAt [1, 1, 0, 1, 0, 0, 1, 1, 0, 0, 1, 1, 0, 0] (bodyOf Try.f28)), graph_preds_l6_k n)]) mixed (fun _ => rfl) graph_preds_ok (by kernel_rfl) (fun _ => by kernel_rfl) (fun n => ⟨graph_preds_l6_m n, trivial⟩) (fun _ _ => rfl) (fun n x y => by kernel_rfl) n
theorem graph_preds_m (n : Nat) : Meets Try.prog 28 (graph_preds_c n) :=
 con_meets (l := [(Code.loop (codeAt [1, 1, 0, 1, 0, 0] (bodyOf Try.f28)), graph_preds_l3_k n)]) mixed Try.func28 (by kernel_rfl) (graph_preds_ok n) (by kernel_rfl) (by kernel_rfl) (by kernel_rfl) ⟨graph_preds_l3_m n, trivial⟩ (fun x => by kernel_rfl)
/-! 12 lockstep/graph.Make -/
noncomputable def graph_Make_l6 : Nat → L_api_Graph → (List (List Int)) → Int → (List (List Int)) → Int → Option ((List (List Int)) × L_api_Graph)
 | 0, _, _, _, _, _ => none
 | n + 1, t2, t24, t25, t5, t26 =>
  if (decide (t26 < t25) = true) then
   if ((0 ≤ t26) ∧ (t26 < (t24.length : Int))) then
    (slices_Clone_int_int n (t24.getD t26.toNat [])).bind fun r0 =>
     if ((t5 ++ [r0]).length ≤ Ev.most) then
      (graph_Make_l6 n t2 t24 t25 (t5 ++ [r0]) (IntKind.wrap .i64 (t26 + 1)))
     else none
   else none
  else some (t5, t2)
noncomputable def graph_Make (n : Nat) (t0 : (List (List Int))) : Option (L_api_Graph × Int) :=
 if (decide ((t0.length : Int) < 1) = false) then
  if (decide ((t0.length : Int) > 64) = false) then
   (slices_ContainsFunc_int_int_graph_Make_1 n t0 ((t0.length : Int), ())).bind fun r0 =>
    if (r0.1 = true) then
     some (([], [], ()), 5)
    else if (((0 : Int) ≤ 0) ∧ ((0 ≤ r0.2.1) ∧ (r0.2.1 ≤ 8589934592))) then
     (graph_Make_l6 n ([], [], ()) t0 (t0.length : Int) [] 0).bind fun r1 =>
      (graph_preds n r1.1).bind fun r2 =>
       some ((r1.1, r2, ()), 0)
    else none
  else some (([], [], ()), 5)
 else some (([], [], ()), 5)
noncomputable def graph_Make_l6_h : Sh := ⟨[(2, (.box (.pair (.own (.list (.int .i64))) (.pair (.val (.list (.list (.int .i64)))) .unit)))), (24, (.val (.list (.list (.int .i64))))), (25, (.val (.int .i64)))], [(5, (.own (.list (.int .i64)))), (26, (.val (.int .i64)))], [5, 7, 26, 27, 28, 29, 30, 31, 32, 33, 34, 35], [⟨.exit 0, [(5, (.own (.list (.int .i64))))]⟩]⟩
noncomputable def graph_Make_l6_F (n : Nat) : graph_Make_l6_h.Fn := fun x y => graph_Make_l6 n x.1 x.2.1 x.2.2.1 y.1 y.2.1
noncomputable def graph_Make_l6_k (n : Nat) : Cut := graph_Make_l6_h.cut (graph_Make_l6_F n)
noncomputable def graph_Make_e (n : Nat) : Env := mkEnv T_ A_ N_ [(25, graph_Make_1_c n), (24, slices_ContainsFunc_int_int_graph_Make_1_c n), (27, slices_Clone_int_int_c n), (28, graph_preds_c n)] [((0, 6, 9), graph_Make_l6_k n)] 40
noncomputable def graph_Make_c (n : Nat) : Con := mkCon [(.val (.list (.list (.int .i64))))] [(.val Y_api_Graph), (.val (.int .i64))] (fun x => graph_Make n x.1)
theorem graph_Make_ok (n : Nat) : EnvOK Try.prog (graph_Make_e n) := mkEnv_ok tabs ⟨⟨graph_Make_1_m n, fok25⟩, ⟨slices_ContainsFunc_int_int_graph_Make_1_m n, fok24⟩, ⟨slices_Clone_int_int_m n, fok27⟩, ⟨graph_preds_m n, fok28⟩, trivial⟩
theorem graph_Make_l6_m (n : Nat) : CutMeets Try.prog (.loop (codeAt [1, 1, 1, 1, 0, 1, 0, 0] (bodyOf Try.f12))) 40 (graph_Make_l6_k n) :=
 loop_ok graph_Make_l6_h graph_Make_l6_F (E := graph_Make_e) (l := fun n => []) mixed (fun _ => rfl) graph_Make_ok (by kernel_rfl) (fun _ => by kernel_rfl) (fun n => trivial) (fun _ _ => rfl) (fun n x y => by kernel_rfl) n
theorem graph_Make_m (n : Nat) : Meets Try.prog 12 (graph_Make_c n) :=
 con_meets (l := [(Code.loop (codeAt [1, 1, 1, 1, 0, 1, 0, 0] (bodyOf Try.f12)), graph_Make_l6_k n)]) mixed Try.func12 (by kernel_rfl) (graph_Make_ok n) (by kernel_rfl) (by kernel_rfl) (by kernel_rfl) ⟨graph_Make_l6_m n, trivial⟩ (fun x => by kernel_rfl)
/-! 23 slices.Equal[[]int,int] -/
noncomputable def slices_Equal_int_int_l4 : Nat → (List Int) → (List Int) → Int → Int → Option (Sum Unit Bool)
 | 0, _, _, _, _ => none
 | n + 1, t0, t1, t12, t13 =>
  if (decide (t13 < t12) = true) then
   if ((0 ≤ t13) ∧ (t13 < (t0.length : Int))) then
    if ((0 ≤ t13) ∧ (t13 < (t1.length : Int))) then
     if (((t0.getD t13.toNat 0) != (t1.getD t13.toNat 0)) = true) then
      some (.inr false)
     else (slices_Equal_int_int_l4 n t0 t1 t12 (IntKind.wrap .i64 (t13 + 1)))
    else none
   else none
  else some (.inl ())
noncomputable def slices_Equal_int_int (n : Nat) (t0 : (List Int)) (t1 : (List Int)) : Option Bool :=
 if (((t0.length : Int) != (t1.length : Int)) = true) then
  some false
 else (slices_Equal_int_int_l4 n t0 t1 (t0.length : Int) 0).bind fun r0 =>
  match r0 with
   | .inl r1 =>
    some true
   | .inr r1 =>
    some r1
noncomputable def slices_Equal_int_int_l4_h : Sh := ⟨[(0, (.val (.list (.int .i64)))), (1, (.val (.list (.int .i64)))), (12, (.val (.int .i64)))], [(13, (.val (.int .i64)))], [4, 5, 13, 14, 15, 16, 17, 18, 19, 20, 21, 22, 23, 24, 25], [⟨.exit 0, []⟩, ⟨.ret, [(4, (.val .bool))]⟩]⟩
noncomputable def slices_Equal_int_int_l4_F (n : Nat) : slices_Equal_int_int_l4_h.Fn := fun x y => slices_Equal_int_int_l4 n x.1 x.2.1 x.2.2.1 y.1
noncomputable def slices_Equal_int_int_l4_k (n : Nat) : Cut := slices_Equal_int_int_l4_h.cut (slices_Equal_int_int_l4_F n)
noncomputable def slices_Equal_int_int_e (n : Nat) : Env := mkEnv T_ A_ N_ [] [((0, 4, 8), slices_Equal_int_int_l4_k n)] 26
noncomputable def slices_Equal_int_int_c (n : Nat) : Con := mkCon [(.val (.list (.int .i64))), (.val (.list (.int .i64)))] [(.val .bool)] (fun x => slices_Equal_int_int n x.1 x.2.1)
theorem slices_Equal_int_int_ok (n : Nat) : EnvOK Try.prog (slices_Equal_int_int_e n) := mkEnv_ok tabs trivial
theorem slices_Equal_int_int_l4_m (n : Nat) : CutMeets Try.prog (.loop (codeAt [1, 1, 0, 1, 0, 0] (bodyOf Try.f23))) 26 (slices_Equal_int_int_l4_k n) :=
 loop_ok slices_Equal_int_int_l4_h slices_Equal_int_int_l4_F (E := slices_Equal_int_int_e) (l := fun n => []) mixed (fun _ => rfl) slices_Equal_int_int_ok (by kernel_rfl) (fun _ => by kernel_rfl) (fun n => trivial) (fun _ _ => rfl) (fun n x y => by kernel_rfl) n
theorem slices_Equal_int_int_m (n : Nat) : Meets Try.prog 23 (slices_Equal_int_int_c n) :=
 con_meets (l := [(Code.loop (codeAt [1, 1, 0, 1, 0, 0] (bodyOf Try.f23)), slices_Equal_int_int_l4_k n)]) mixed Try.func23 (by kernel_rfl) (slices_Equal_int_int_ok n) (by kernel_rfl) (by kernel_rfl) (by kernel_rfl) ⟨slices_Equal_int_int_l4_m n, trivial⟩ (fun x => by kernel_rfl)
/-! 22 slices.EqualFunc[[][]int,[][]int,[]int,[]int] -/
noncomputable def slices_EqualFunc_int_int_int_int_slices_Equal_int_int_l4 : Nat → (List (List Int)) → Unit → (List (List Int)) → Int → Int → Option (Sum Unit Bool)
 | 0, _, _, _, _, _ => none
 | n + 1, t1, t2, t15, t16, t17 =>
  if (decide (t17 < t16) = true) then
   if ((0 ≤ t17) ∧ (t17 < (t15.length : Int))) then
    if ((0 ≤ t17) ∧ (t17 < (t1.length : Int))) then
     (slices_Equal_int_int n (t15.getD t17.toNat []) (t1.getD t17.toNat [])).bind fun r0 =>
      if ((!r0) = true) then
       some (.inr false)
      else (slices_EqualFunc_int_int_int_int_slices_Equal_int_int_l4 n t1 () t15 t16 (IntKind.wrap .i64 (t17 + 1)))
    else none
   else none
  else some (.inl ())
noncomputable def slices_EqualFunc_int_int_int_int_slices_Equal_int_int (n : Nat) (t0 : (List (List Int))) (t1 : (List (List Int))) (t2 : Unit) : Option Bool :=
 if (((t0.length : Int) != (t1.length : Int)) = true) then
  some false
 else (slices_EqualFunc_int_int_int_int_slices_Equal_int_int_l4 n t1 () t0 (t0.length : Int) 0).bind fun r0 =>
  match r0 with
   | .inl r1 =>
    some true
   | .inr r1 =>
    some r1
noncomputable def slices_EqualFunc_int_int_int_int_slices_Equal_int_int_l4_h : Sh := ⟨[(1, (.val (.list (.list (.int .i64))))), (2, (.func 23 0 .unit)), (15, (.val (.list (.list (.int .i64))))), (16, (.val (.int .i64)))], [(17, (.val (.int .i64)))], [6, 7, 8, 9, 17, 18, 19, 20, 21, 22, 23, 24, 25, 26, 27, 28, 29, 30, 31], [⟨.exit 0, []⟩, ⟨.ret, [(6, (.val .bool))]⟩]⟩
noncomputable def slices_EqualFunc_int_int_int_int_slices_Equal_int_int_l4_F (n : Nat) : slices_EqualFunc_int_int_int_int_slices_Equal_int_int_l4_h.Fn := fun x y => slices_EqualFunc_int_int_int_int_slices_Equal_int_int_l4 n x.1 x.2.1 x.2.2.1 x.2.2.2.1 y.1
noncomputable def slices_EqualFunc_int_int_int_int_slices_Equal_int_int_l4_k (n : Nat) : Cut := slices_EqualFunc_int_int_int_int_slices_Equal_int_int_l4_h.cut (slices_EqualFunc_int_int_int_int_slices_Equal_int_int_l4_F n)
noncomputable def slices_EqualFunc_int_int_int_int_slices_Equal_int_int_e (n : Nat) : Env := mkEnv T_ A_ N_ [(23, slices_Equal_int_int_c n)] [((0, 4, 9), slices_EqualFunc_int_int_int_int_slices_Equal_int_int_l4_k n)] 32
noncomputable def slices_EqualFunc_int_int_int_int_slices_Equal_int_int_c (n : Nat) : Con := mkCon [(.val (.list (.list (.int .i64)))), (.val (.list (.list (.int .i64)))), (.func 23 0 .unit)] [(.val .bool)] (fun x => slices_EqualFunc_int_int_int_int_slices_Equal_int_int n x.1 x.2.1 x.2.2.1)
theorem slices_EqualFunc_int_int_int_int_slices_Equal_int_int_ok (n : Nat) : EnvOK Try.prog (slices_EqualFunc_int_int_int_int_slices_Equal_int_int_e n) := mkEnv_ok tabs ⟨⟨slices_Equal_int_int_m n, fok23⟩, trivial⟩
theorem slices_EqualFunc_int_int_int_int_slices_Equal_int_int_l4_m (n : Nat) : CutMeets Try.prog (.loop (codeAt [1, 1, 0, 1, 0, 0] (bodyOf Try.f22))) 32 (slices_EqualFunc_int_int_int_int_slices_Equal_int_int_l4_k n) :=
 loop_ok slices_EqualFunc_int_int_int_int_slices_Equal_int_int_l4_h slices_EqualFunc_int_int_int_int_slices_Equal_int_int_l4_F (E := slices_EqualFunc_int_int_int_int_slices_Equal_int_int_e) (l := fun n => []) mixed (fun _ => rfl) slices_EqualFunc_int_int_int_int_slices_Equal_int_int_ok (by kernel_rfl) (fun _ => by kernel_rfl) (fun n => trivial) (fun _ _ => rfl) (fun n x y => by kernel_rfl) n
theorem slices_EqualFunc_int_int_int_int_slices_Equal_int_int_m (n : Nat) : Meets Try.prog 22 (slices_EqualFunc_int_int_int_int_slices_Equal_int_int_c n) :=
 con_meets (l := [(Code.loop (codeAt [1, 1, 0, 1, 0, 0] (bodyOf Try.f22)), slices_EqualFunc_int_int_int_int_slices_Equal_int_int_l4_k n)]) mixed Try.func22 (by kernel_rfl) (slices_EqualFunc_int_int_int_int_slices_Equal_int_int_ok n) (by kernel_rfl) (by kernel_rfl) (by kernel_rfl) ⟨slices_EqualFunc_int_int_int_int_slices_Equal_int_int_l4_m n, trivial⟩ (fun x => by kernel_rfl)
/-! 10 lockstep/graph.May -/
noncomputable def graph_May (n : Nat) (t0 : L_api_Graph) : Option Bool :=
 (graph_Make n t0.1).bind fun r0 =>
  if ((r0.2 == 0) = true) then
   (slices_EqualFunc_int_int_int_int_slices_Equal_int_int n r0.1.2.1 t0.2.1 ()).bind fun r1 =>
    some r1
  else some false
noncomputable def graph_May_e (n : Nat) : Env := mkEnv T_ A_ N_ [(12, graph_Make_c n), (23, slices_Equal_int_int_c n), (22, slices_EqualFunc_int_int_int_int_slices_Equal_int_int_c n)] [] 20
noncomputable def graph_May_c (n : Nat) : Con := mkCon [(.val Y_api_Graph)] [(.val .bool)] (fun x => graph_May n x.1)
theorem graph_May_ok (n : Nat) : EnvOK Try.prog (graph_May_e n) := mkEnv_ok tabs ⟨⟨graph_Make_m n, fok12⟩, ⟨slices_Equal_int_int_m n, fok23⟩, ⟨slices_EqualFunc_int_int_int_int_slices_Equal_int_int_m n, fok22⟩, trivial⟩
theorem graph_May_m (n : Nat) : Meets Try.prog 10 (graph_May_c n) :=
 con_meets (l := []) mixed Try.func10 (by kernel_rfl) (graph_May_ok n) (by kernel_rfl) (by kernel_rfl) (by kernel_rfl) trivial (fun x => by kernel_rfl)
/-! 29 slices.Reverse[[]int,int] -/
noncomputable def slices_Reverse_int_int_l1 : Nat → (List Int) → Int → Int → Option (List Int)
 | 0, _, _, _ => none
 | n + 1, t0, t2, t3 =>
  if (decide (t2 < t3) = true) then
   if ((0 ≤ t3) ∧ (t3 < (t0.length : Int))) then
    if ((0 ≤ t2) ∧ (t2 < (t0.length : Int))) then
     if ((0 ≤ t2) ∧ (t2 < (t0.length : Int))) then
      if ((0 ≤ t3) ∧ (t3 < ((t0.set t2.toNat (t0.getD t3.toNat 0)).length : Int))) then
       if (0 < ((t0.set t2.toNat (t0.getD t3.toNat 0)).set t3.toNat (t0.getD t2.toNat 0)).length) then
        (slices_Reverse_int_int_l1 n ((t0.set t2.toNat (t0.getD t3.toNat 0)).set t3.toNat (t0.getD t2.toNat 0)) (IntKind.wrap .i64 (t2 + 1)) (IntKind.wrap .i64 (t3 - 1)))
       else none
      else none
     else none
    else none
   else none
  else if (0 < t0.length) then
   some t0
  else none
noncomputable def slices_Reverse_int_int (n : Nat) (t0 : (List Int)) : Option (List Int) :=
 if (0 < t0.length) then
  (slices_Reverse_int_int_l1 n t0 0 (IntKind.wrap .i64 ((t0.length : Int) - 1))).bind fun r0 =>
   if (0 < r0.length) then
    some r0
   else none
 else none
noncomputable def slices_Reverse_int_int_l1_h : Sh := ⟨[(0, (.ip (.int .i64)))], [(2, (.val (.int .i64))), (3, (.val (.int .i64)))], [2, 3, 7, 8, 9, 10, 11, 12, 13, 14, 15, 16, 17, 18, 19, 20, 21, 22, 23, 24, 25, 26, 27], [⟨.exit 0, []⟩]⟩
noncomputable def slices_Reverse_int_int_l1_F (n : Nat) : slices_Reverse_int_int_l1_h.Fn := fun x y => slices_Reverse_int_int_l1 n x.1 y.1 y.2.1
noncomputable def slices_Reverse_int_int_l1_k (n : Nat) : Cut := slices_Reverse_int_int_l1_h.cut (slices_Reverse_int_int_l1_F n)
noncomputable def slices_Reverse_int_int_e (n : Nat) : Env := mkEnv T_ A_ N_ [] [((0, 1, 2), slices_Reverse_int_int_l1_k n)] 28
noncomputable def slices_Reverse_int_int_c (n : Nat) : Con := mkCon [(.ip (.int .i64))] [] (fun x => slices_Reverse_int_int n x.1)
theorem slices_Reverse_int_int_ok (n : Nat) : EnvOK Try.prog (slices_Reverse_int_int_e n) := mkEnv_ok tabs trivial
theorem slices_Reverse_int_int_l1_m (n : Nat) : CutMeets Try.prog (.loop (codeAt [1, 0, 0] (bodyOf Try.f29))) 28 (slices_Reverse_int_int_l1_k n) :=
 loop_ok slices_Reverse_int_int_l1_h slices_Reverse_int_int_l1_F (E := slices_Reverse_int_int_e) (l := fun n => []) mixed (fun _ => rfl) slices_Reverse_int_int_ok (by kernel_rfl) (fun _ => by kernel_rfl) (fun n => trivial) (fun _ _ => rfl) (fun n x y => by kernel_rfl) n
theorem slices_Reverse_int_int_m (n : Nat) : Meets Try.prog 29 (slices_Reverse_int_int_c n) :=
 con_meets (l := [(Code.loop (codeAt [1, 0, 0] (bodyOf Try.f29)), slices_Reverse_int_int_l1_k n)]) mixed Try.func29 (by kernel_rfl) (slices_Reverse_int_int_ok n) (by kernel_rfl) (by kernel_rfl) (by kernel_rfl) ⟨slices_Reverse_int_int_l1_m n, trivial⟩ (fun x => by kernel_rfl)
/-! 29 slices.Reverse[[]int,int] -/
noncomputable def slices_Reverse_int_int_f29_l1 : Nat → (List Int) → Int → Int → Option Unit
 | 0, _, _, _ => none
 | n + 1, t0, t2, t3 =>
  if (decide (t2 < t3) = true) then
   if ((0 ≤ t3) ∧ (t3 < (t0.length : Int))) then
    if ((0 ≤ t2) ∧ (t2 < (t0.length : Int))) then
     if ((0 ≤ t2) ∧ (t2 < (t0.length : Int))) then
      none
     else none
    else none
   else none
  else some ()
noncomputable def slices_Reverse_int_int_f29 (n : Nat) (t0 : (List Int)) : Option Unit :=
 (slices_Reverse_int_int_f29_l1 n t0 0 (IntKind.wrap .i64 ((t0.length : Int) - 1))).bind fun r0 =>
  some ()
noncomputable def slices_Reverse_int_int_f29_l1_h : Sh := ⟨[(0, (.val (.list (.int .i64))))], [(2, (.val (.int .i64))), (3, (.val (.int .i64)))], [2, 3, 7, 8, 9, 10, 11, 12, 13, 14, 15, 16, 17, 18, 19, 20, 21, 22, 23, 24, 25, 26, 27], [⟨.exit 0, []⟩]⟩
noncomputable def slices_Reverse_int_int_f29_l1_F (n : Nat) : slices_Reverse_int_int_f29_l1_h.Fn := fun x y => slices_Reverse_int_int_f29_l1 n x.1 y.1 y.2.1
noncomputable def slices_Reverse_int_int_f29_l1_k (n : Nat) : Cut := slices_Reverse_int_int_f29_l1_h.cut (slices_Reverse_int_int_f29_l1_F n)
noncomputable def slices_Reverse_int_int_f29_e (n : Nat) : Env := mkEnv T_ A_ N_ [] [((0, 1, 2), slices_Reverse_int_int_f29_l1_k n)] 28
noncomputable def slices_Reverse_int_int_f29_c (n : Nat) : Con := mkCon [(.val (.list (.int .i64)))] [] (fun x => slices_Reverse_int_int_f29 n x.1)
theorem slices_Reverse_int_int_f29_ok (n : Nat) : EnvOK Try.prog (slices_Reverse_int_int_f29_e n) := mkEnv_ok tabs trivial
theorem slices_Reverse_int_int_f29_l1_m (n : Nat) : CutMeets Try.prog (.loop (codeAt [1, 0, 0] (bodyOf Try.f29))) 28 (slices_Reverse_int_int_f29_l1_k n) :=
 loop_ok slices_Reverse_int_int_f29_l1_h slices_Reverse_int_int_f29_l1_F (E := slices_Reverse_int_int_f29_e) (l := fun n => []) mixed (fun _ => rfl) slices_Reverse_int_int_f29_ok (by kernel_rfl) (fun _ => by kernel_rfl) (fun n => trivial) (fun _ _ => rfl) (fun n x y => by kernel_rfl) n
theorem slices_Reverse_int_int_f29_m (n : Nat) : Meets Try.prog 29 (slices_Reverse_int_int_f29_c n) :=
 con_meets (l := [(Code.loop (codeAt [1, 0, 0] (bodyOf Try.f29)), slices_Reverse_int_int_f29_l1_k n)]) mixed Try.func29 (by kernel_rfl) (slices_Reverse_int_int_f29_ok n) (by kernel_rfl) (by kernel_rfl) (by kernel_rfl) ⟨slices_Reverse_int_int_f29_l1_m n, trivial⟩ (fun x => by kernel_rfl)
/-! 13 lockstep/graph.Order -/
noncomputable def graph_Order_l9 : Nat → L_api_Graph → (List Bool) → (List Int) → Int → (List Int) → (List Int) → Option (Sum ((List Int) × ((List Int) × (L_api_Graph × ((List Bool) × (List Int))))) ((List Int) × ((List Int) × (L_api_Graph × ((List Bool) × (List Int))))))
 | 0, _, _, _, _, _, _ => none
 | n + 1, t2, t5, t6, t9, t7, t8 =>
  if ((0 ≤ t9) ∧ (t9 < 64)) then
   if ((0 ≤ t9) ∧ (t9 < (t2.1.length : Int))) then
    if (decide ((t6.getD t9.toNat 0) < ((t2.1.getD t9.toNat []).length : Int)) = true) then
     if ((0 ≤ t9) ∧ (t9 < (t2.1.length : Int))) then
      if ((0 ≤ t9) ∧ (t9 < 64)) then
       if ((0 ≤ (t6.getD t9.toNat 0)) ∧ ((t6.getD t9.toNat 0) < ((t2.1.getD t9.toNat []).length : Int))) then
        if ((0 ≤ t9) ∧ (t9 < 64)) then
         if ((0 ≤ t9) ∧ (t9 < 64)) then
          if ((0 ≤ ((t2.1.getD t9.toNat []).getD ((t6.getD t9.toNat 0).toNat) 0)) ∧ (((t2.1.getD t9.toNat []).getD ((t6.getD t9.toNat 0).toNat) 0) < 64)) then
           if ((!(t5.getD (((t2.1.getD t9.toNat []).getD ((t6.getD t9.toNat 0).toNat) 0).toNat) false)) = true) then
            if ((0 ≤ ((t2.1.getD t9.toNat []).getD ((t6.getD t9.toNat 0).toNat) 0)) ∧ (((t2.1.getD t9.toNat []).getD ((t6.getD t9.toNat 0).toNat) 0) < 64)) then
             if ((t8 ++ [((t2.1.getD t9.toNat []).getD ((t6.getD t9.toNat 0).toNat) 0)]).length ≤ Ev.most) then
              some (.inr (t7, (t8 ++ [((t2.1.getD t9.toNat []).getD ((t6.getD t9.toNat 0).toNat) 0)]), t2, (t5.set (((t2.1.getD t9.toNat []).getD ((t6.getD t9.toNat 0).toNat) 0).toNat) true), (t6.set t9.toNat (IntKind.wrap .i64 ((t6.getD t9.toNat 0) + 1)))))
             else none
            else none
           else (graph_Order_l9 n t2 t5 (t6.set t9.toNat (IntKind.wrap .i64 ((t6.getD t9.toNat 0) + 1))) t9 t7 t8)
          else none
         else none
        else none
       else none
      else none
     else none
    else some (.inl (t7, t8, t2, t5, t6))
   else none
  else none
noncomputable def graph_Order_s1_j0 : Nat → Int → L_api_Graph → (List Bool) → (List Int) → (List Int) → (List Int) → Option (Sum ((List Int) × L_api_Graph) ((List Int) × L_api_Graph))
 | 0, _, _, _, _, _, _ => none
 | n + 1, t1, t2, t5, t6, t7, t8 =>
  if ((0 ≤ (IntKind.wrap .i64 ((t8.length : Int) - 1))) ∧ ((IntKind.wrap .i64 ((t8.length : Int) - 1)) < (t8.length : Int))) then
   (graph_Order_l9 n t2 t5 t6 (t8.getD ((IntKind.wrap .i64 ((t8.length : Int) - 1)).toNat) 0) t7 t8).bind fun r0 =>
    match r0 with
     | .inl r1 =>
      if ((r1.1 ++ [(t8.getD ((IntKind.wrap .i64 ((t8.length : Int) - 1)).toNat) 0)]).length ≤ Ev.most) then
       if ((0 ≤ (IntKind.wrap .i64 ((r1.2.1.length : Int) - 1))) ∧ ((IntKind.wrap .i64 ((r1.2.1.length : Int) - 1)) ≤ (r1.2.1.length : Int))) then
        if (decide (((r1.2.1.take ((IntKind.wrap .i64 ((r1.2.1.length : Int) - 1)).toNat)).length : Int) > 0) = true) then
         (graph_Order_s1_j0 n t1 r1.2.2.1 r1.2.2.2.1 r1.2.2.2.2 (r1.1 ++ [(t8.getD ((IntKind.wrap .i64 ((t8.length : Int) - 1)).toNat) 0)]) (r1.2.1.take ((IntKind.wrap .i64 ((r1.2.1.length : Int) - 1)).toNat)))
        else if (0 < (r1.1 ++ [(t8.getD ((IntKind.wrap .i64 ((t8.length : Int) - 1)).toNat) 0)]).length) then
         if (0 < (r1.1 ++ [(t8.getD ((IntKind.wrap .i64 ((t8.length : Int) - 1)).toNat) 0)]).length) then
          (slices_Reverse_int_int n (r1.1 ++ [(t8.getD ((IntKind.wrap .i64 ((t8.length : Int) - 1)).toNat) 0)])).bind fun r2 =>
           some (.inl (r2, r1.2.2.1))
         else none
        else (slices_Reverse_int_int_f29 n (r1.1 ++ [(t8.getD ((IntKind.wrap .i64 ((t8.length : Int) - 1)).toNat) 0)])).bind fun r2 =>
         some (.inl ((r1.1 ++ [(t8.getD ((IntKind.wrap .i64 ((t8.length : Int) - 1)).toNat) 0)]), r1.2.2.1))
       else none
      else none
     | .inr r1 =>
      (graph_Order_s1_j0 n t1 r1.2.2.1 r1.2.2.2.1 r1.2.2.2.2 r1.1 r1.2.1)
  else none
noncomputable def graph_Order_s1 (n : Nat) (t1 : Int) (t2 : L_api_Graph) : Option (Sum ((List Int) × L_api_Graph) ((List Int) × L_api_Graph)) :=
  (graph_May n t2).bind fun r0 =>
   if ((!r0) = false) then
    if (decide (t1 < 0) = false) then
     if (decide (t1 ≥ (t2.1.length : Int)) = true) then
      some (.inl ([], t2))
     else if ((0 ≤ t1) ∧ (t1 < 64)) then
      (graph_Order_l9 n t2 (([false, false, false, false, false, false, false, false, false, false, false, false, false, false, false, false, false, false, false, false, false, false, false, false, false, false, false, false, false, false, false, false, false, false, false, false, false, false, false, false, false, false, false, false, false, false, false, false, false, false, false, false, false, false, false, false, false, false, false, false, false, false, false, false]).set t1.toNat true) ([0, 0, 0, 0, 0, 0, 0, 0, 0, 0, 0, 0, 0, 0, 0, 0, 0, 0, 0, 0, 0, 0, 0, 0, 0, 0, 0, 0, 0, 0, 0, 0, 0, 0, 0, 0, 0, 0, 0, 0, 0, 0, 0, 0, 0, 0, 0, 0, 0, 0, 0, 0, 0, 0, 0, 0, 0, 0, 0, 0, 0, 0, 0, 0]) ([t1].getD ((IntKind.wrap .i64 (([t1].length : Int) - 1)).toNat) 0) [] [t1]).bind fun r1 =>
       match r1 with
        | .inl r2 =>
         if ((r2.1 ++ [([t1].getD ((IntKind.wrap .i64 (([t1].length : Int) - 1)).toNat) 0)]).length ≤ Ev.most) then
          if ((0 ≤ (IntKind.wrap .i64 ((r2.2.1.length : Int) - 1))) ∧ ((IntKind.wrap .i64 ((r2.2.1.length : Int) - 1)) ≤ (r2.2.1.length : Int))) then
           if (decide (((r2.2.1.take ((IntKind.wrap .i64 ((r2.2.1.length : Int) - 1)).toNat)).length : Int) > 0) = true) then
            (graph_Order_s1_j0 n t1 r2.2.2.1 r2.2.2.2.1 r2.2.2.2.2 (r2.1 ++ [([t1].getD ((IntKind.wrap .i64 (([t1].length : Int) - 1)).toNat) 0)]) (r2.2.1.take ((IntKind.wrap .i64 ((r2.2.1.length : Int) - 1)).toNat)))
           else if (0 < (r2.1 ++ [([t1].getD ((IntKind.wrap .i64 (([t1].length : Int) - 1)).toNat) 0)]).length) then
            if (0 < (r2.1 ++ [([t1].getD ((IntKind.wrap .i64 (([t1].length : Int) - 1)).toNat) 0)]).length) then
             (slices_Reverse_int_int n (r2.1 ++ [([t1].getD ((IntKind.wrap .i64 (([t1].length : Int) - 1)).toNat) 0)])).bind fun r3 =>
              some (.inl (r3, r2.2.2.1))
            else none
           else (slices_Reverse_int_int_f29 n (r2.1 ++ [([t1].getD ((IntKind.wrap .i64 (([t1].length : Int) - 1)).toNat) 0)])).bind fun r3 =>
            some (.inl ((r2.1 ++ [([t1].getD ((IntKind.wrap .i64 (([t1].length : Int) - 1)).toNat) 0)]), r2.2.2.1))
          else none
         else none
        | .inr r2 =>
         (graph_Order_s1_j0 n t1 r2.2.2.1 r2.2.2.2.1 r2.2.2.2.2 r2.1 r2.2.1)
     else none
    else some (.inl ([], t2))
   else some (.inl ([], t2))
noncomputable def graph_Order (n : Nat) (t0 : L_api_Graph) (t1 : Int) : Option (List Int) :=
 (graph_Order_s1 n t1 t0).bind fun r0 =>
  match r0 with
   | .inl r1 =>
    some r1.1
   | .inr r1 =>
    some r1.1
noncomputable def graph_Order_l9_h : Sh := ⟨[(2, (.box (.val Y_api_Graph))), (5, (.box (.val (.arr 64 .bool)))), (6, (.box (.val (.arr 64 (.int .i64))))), (9, (.val (.int .i64)))], [(7, (.own (.int .i64))), (8, (.own (.int .i64)))], [7, 8, 10, 35, 36, 37, 38, 39, 40, 41, 42, 43, 44, 45, 46, 47, 48, 49, 50, 51, 52, 53, 54, 55, 56, 57, 58, 59, 60, 61, 62, 63, 64, 65, 66, 67, 68, 69], [⟨.exit 0, [(7, (.own (.int .i64))), (8, (.own (.int .i64)))]⟩, ⟨.goto 0, [(7, (.own (.int .i64))), (8, (.own (.int .i64)))]⟩]⟩
noncomputable def graph_Order_l9_F (n : Nat) : graph_Order_l9_h.Fn := fun x y => graph_Order_l9 n x.1 x.2.1 x.2.2.1 x.2.2.2.1 y.1 y.2.1
noncomputable def graph_Order_l9_k (n : Nat) : Cut := graph_Order_l9_h.cut (graph_Order_l9_F n)
noncomputable def graph_Order_s1_h : Sh := ⟨[(1, (.val (.int .i64))), (2, (.box (.val Y_api_Graph)))], [], [4, 5, 6, 7, 8, 9, 10, 11, 12, 13, 14, 15, 16, 17, 18, 19, 20, 21, 22, 23, 24, 25, 26, 27, 28, 29, 30, 31, 32, 33, 34, 35, 36, 37, 38, 39, 40, 41, 42, 43, 44, 45, 46, 47, 48, 49, 50, 51, 52, 53, 54, 55, 56, 57, 58, 59, 60, 61, 62, 63, 64, 65, 66, 67, 68, 69, 70, 71, 72, 73, 74, 75, 76, 77, 78, 79, 80, 81, 82, 83, 84], [⟨.ret, [(4, (.own (.int .i64)))]⟩, ⟨.normal, [(4, (.own (.int .i64)))]⟩]⟩
noncomputable def graph_Order_s1_F (n : Nat) : graph_Order_s1_h.Fn := fun x y => graph_Order_s1 n x.1 x.2.1
noncomputable def graph_Order_s1_k (n : Nat) : Cut := graph_Order_s1_h.cut (graph_Order_s1_F n)
noncomputable def graph_Order_s1_L : List (Lab graph_Order_s1_h) := [⟨0, [(5, (.box (.val (.arr 64 .bool)))), (6, (.box (.val (.arr 64 (.int .i64))))), (7, (.own (.int .i64))), (8, (.own (.int .i64)))], fun n x y => graph_Order_s1_j0 n x.1 x.2.1 y.1 y.2.1 y.2.2.1 y.2.2.2.1⟩]
noncomputable def graph_Order_e (n : Nat) : Env := mkEnv T_ A_ N_ [(10, graph_May_c n), (29, slices_Reverse_int_int_c n), (29, slices_Reverse_int_int_f29_c n)] [((0, 9, 0), graph_Order_l9_k n), ((1, 1, 0), graph_Order_s1_k n)] 85
noncomputable def graph_Order_c (n : Nat) : Con := mkCon [(.val Y_api_Graph), (.val (.int .i64))] [(.val (.list (.int .i64)))] (fun x => graph_Order n x.1 x.2.1)
theorem graph_Order_ok (n : Nat) : EnvOK Try.prog (graph_Order_e n) := mkEnv_ok tabs ⟨⟨graph_May_m n, fok10⟩, ⟨slices_Reverse_int_int_m n, fok29⟩, ⟨slices_Reverse_int_int_f29_m n, fok29⟩, trivial⟩
theorem graph_Order_l9_m (n : Nat) : CutMeets Try.prog (.loop (codeAt [1, 0, 1, 1, 1, 1, 1, 1, 1, 1, 0, 0, 0] (bodyOf Try.f13))) 85 (graph_Order_l9_k n) :=
 loop_ok graph_Order_l9_h graph_Order_l9_F (E := graph_Order_e) (l := fun n => []) mixed (fun _ => rfl) graph_Order_ok (by kernel_rfl) (fun _ => by kernel_rfl) (fun n => trivial) (fun _ _ => rfl) (fun n x y => by kernel_rfl) n
theorem graph_Order_s1_m (n : Nat) : CutMeets Try.prog (.scope (codeAt [1, 0] (bodyOf Try.f13))) 85 (graph_Order_s1_k n) :=
 scope_ok graph_Order_s1_h (graph_Order_s1_F n) graph_Order_s1_L (E := graph_Order_e) (l := fun n => [(Code.loop (codeAt [1, 0, 1, 1, 1, 1, 1, 1, 1, 1, 0, 0, 0] (bodyOf Try.f13)), graph_Order_l9_k n)]) mixed (fun _ => rfl) graph_Order_ok (by kernel_rfl) (fun _ => by kernel_rfl) (fun n => ⟨graph_Order_l9_m n, trivial⟩) ⟨⟨fun _ _ => rfl, by kernel_rfl, fun n => [(Code.loop (codeAt [1, 0, 1, 1, 1, 1, 1, 1, 1, 1, 0, 0, 0] (bodyOf Try.f13)), graph_Order_l9_k n)], fun _ => by kernel_rfl, fun n => ⟨graph_Order_l9_m n, trivial⟩, fun n x y => by kernel_rfl⟩, trivial⟩ n (fun x y => by kernel_rfl)
theorem graph_Order_m (n : Nat) : Meets Try.prog 13 (graph_Order_c n) :=
 con_meets (l := [(Code.scope (codeAt [1, 0] (bodyOf Try.f13)), graph_Order_s1_k n)]) mixed Try.func13 (by kernel_rfl) (graph_Order_ok n) (by kernel_rfl) (by kernel_rfl) (by kernel_rfl) ⟨graph_Order_s1_m n, trivial⟩ (fun x => by kernel_rfl)
/-! 5 lockstep/locksteplaw06.awake -/
noncomputable def locksteplaw06_awake (n : Nat) : Option Bool :=
 (graph_Make n ([[1, 2], [3], [3], []])).bind fun r0 =>
  (graph_Order n r0.1 0).bind fun r1 =>
   (graph_Make n [[1]]).bind fun r2 =>
    if ((r0.2 == 0) = true) then
     if (((r0.1.2.1.length : Int) == 4) = true) then
      if (((0 : Int) ≤ 3) ∧ (3 < (r0.1.2.1.length : Int))) then
       if ((((r0.1.2.1.getD 3 []).length : Int) == 2) = true) then
        if (((r1.length : Int) == 4) = true) then
         if (((0 : Int) ≤ 0) ∧ (0 < (r1.length : Int))) then
          if (((r1.getD 0 0) == 0) = true) then
           if (((0 : Int) ≤ 1) ∧ (1 < (r1.length : Int))) then
            if (((r1.getD 1 0) == 2) = true) then
             if (((0 : Int) ≤ 3) ∧ (3 < (r1.length : Int))) then
              if (((r1.getD 3 0) == 3) = true) then
               if ((r2.2 == 5) = true) then
                (graph_May n r0.1).bind fun r3 =>
                 some r3
               else some false
              else some false
             else none
            else some false
           else none
          else some false
         else none
        else some false
       else some false
      else none
     else some false
    else some false
noncomputable def locksteplaw06_awake_e (n : Nat) : Env := mkEnv T_ A_ N_ [(12, graph_Make_c n), (10, graph_May_c n), (13, graph_Order_c n)] [] 69
noncomputable def locksteplaw06_awake_c (n : Nat) : Con := mkCon [] [(.val .bool)] (fun x => locksteplaw06_awake n)
theorem locksteplaw06_awake_ok (n : Nat) : EnvOK Try.prog (locksteplaw06_awake_e n) := mkEnv_ok tabs ⟨⟨graph_Make_m n, fok12⟩, ⟨graph_May_m n, fok10⟩, ⟨graph_Order_m n, fok13⟩, trivial⟩
theorem locksteplaw06_awake_m (n : Nat) : Meets Try.prog 5 (locksteplaw06_awake_c n) :=
 con_meets (l := []) mixed Try.func5 (by kernel_rfl) (locksteplaw06_awake_ok n) (by kernel_rfl) (by kernel_rfl) (by kernel_rfl) trivial (fun x => by kernel_rfl)
/-! 6 lockstep/lockstepref04.Small -/
noncomputable def lockstepref04_Small_l7 : Nat → L_api_Func → Int → Int → Int → Option (Int × L_api_Func)
 | 0, _, _, _, _ => none
 | n + 1, t1, t4, t3, t5 =>
  if ((0 ≤ t4) ∧ (t4 < (t1.2.2.1.length : Int))) then
   if (decide (t5 < (((t1.2.2.1.getD t4.toNat ([], [], (0, 0, [], ()), ())).1).length : Int)) = true) then
    if (decide (t3 ≤ 20000) = true) then
     if ((0 ≤ t4) ∧ (t4 < (t1.2.2.1.length : Int))) then
      if ((0 ≤ t5) ∧ (t5 < (((t1.2.2.1.getD t4.toNat ([], [], (0, 0, [], ()), ())).1).length : Int))) then
       if ((0 ≤ t4) ∧ (t4 < (t1.2.2.1.length : Int))) then
        if ((0 ≤ t5) ∧ (t5 < (((t1.2.2.1.getD t4.toNat ([], [], (0, 0, [], ()), ())).1).length : Int))) then
         (lockstepref04_Small_l7 n t1 t4 (IntKind.wrap .i64 ((IntKind.wrap .i64 ((IntKind.wrap .i64 (t3 + 1)) + (((((((t1.2.2.1.getD t4.toNat ([], [], (0, 0, [], ()), ())).1).getD t5.toNat (0, 0, [], [], ())).2).2).1).length : Int))) + ((((((((t1.2.2.1.getD t4.toNat ([], [], (0, 0, [], ()), ())).1).getD t5.toNat (0, 0, [], [], ())).2).2).2).1).length : Int))) (IntKind.wrap .i64 (t5 + 1)))
        else none
       else none
      else none
     else none
    else some (t3, t1)
   else some (t3, t1)
  else none
noncomputable def lockstepref04_Small_l11 : Nat → L_api_Func → Int → Int → Int → Option (Int × L_api_Func)
 | 0, _, _, _, _ => none
 | n + 1, t1, t4, t3, t6 =>
  if ((0 ≤ t4) ∧ (t4 < (t1.2.2.1.length : Int))) then
   if (decide (t6 < ((((t1.2.2.1.getD t4.toNat ([], [], (0, 0, [], ()), ())).2).1).length : Int)) = true) then
    if (decide (t3 ≤ 20000) = true) then
     if ((0 ≤ t4) ∧ (t4 < (t1.2.2.1.length : Int))) then
      if ((0 ≤ t6) ∧ (t6 < ((((t1.2.2.1.getD t4.toNat ([], [], (0, 0, [], ()), ())).2).1).length : Int))) then
       (lockstepref04_Small_l11 n t1 t4 (IntKind.wrap .i64 ((IntKind.wrap .i64 (t3 + 1)) + ((((((((((t1.2.2.1.getD t4.toNat ([], [], (0, 0, [], ()), ())).2).1).getD t6.toNat (0, 0, 0, 0, [], 0, ())).2).2).2).2).1).length : Int))) (IntKind.wrap .i64 (t6 + 1)))
      else none
     else none
    else some (t3, t1)
   else some (t3, t1)
  else none
noncomputable def lockstepref04_Small_l3 : Nat → L_api_Func → Int → Int → Option (Int × L_api_Func)
 | 0, _, _, _ => none
 | n + 1, t1, t3, t4 =>
  if (decide (t4 < (t1.2.2.1.length : Int)) = true) then
   if (decide (t3 ≤ 20000) = true) then
    if ((0 ≤ t4) ∧ (t4 < (t1.2.2.1.length : Int))) then
     (lockstepref04_Small_l7 n t1 t4 (IntKind.wrap .i64 ((IntKind.wrap .i64 (t3 + 1)) + ((((((((t1.2.2.1.getD t4.toNat ([], [], (0, 0, [], ()), ())).2).2).1).2).2).1).length : Int))) 0).bind fun r0 =>
      (lockstepref04_Small_l11 n r0.2 t4 r0.1 0).bind fun r1 =>
       (lockstepref04_Small_l3 n r1.2 r1.1 (IntKind.wrap .i64 (t4 + 1)))
    else none
   else some (t3, t1)
  else some (t3, t1)
noncomputable def lockstepref04_Small (n : Nat) (t0 : L_api_Func) : Option Bool :=
 (lockstepref04_Small_l3 n t0 (t0.1.length : Int) 0).bind fun r0 =>
  some (decide (r0.1 ≤ 20000))
noncomputable def lockstepref04_Small_l7_h : Sh := ⟨[(1, (.box (.val Y_api_Func))), (4, (.val (.int .i64)))], [(3, (.val (.int .i64))), (5, (.val (.int .i64)))], [3, 5, 32, 33, 34, 35, 36, 37, 38, 39, 40, 41, 42, 43, 44, 45, 46, 47, 48, 49, 50, 51, 52, 53, 54, 55, 56, 57, 58, 59, 60, 61, 62, 63, 64, 65, 66, 67, 68, 69, 70, 71, 72], [⟨.exit 2, [(3, (.val (.int .i64)))]⟩]⟩
noncomputable def lockstepref04_Small_l7_F (n : Nat) : lockstepref04_Small_l7_h.Fn := fun x y => lockstepref04_Small_l7 n x.1 x.2.1 y.1 y.2.1
noncomputable def lockstepref04_Small_l7_k (n : Nat) : Cut := lockstepref04_Small_l7_h.cut (lockstepref04_Small_l7_F n)
noncomputable def lockstepref04_Small_l11_h : Sh := ⟨[(1, (.box (.val Y_api_Func))), (4, (.val (.int .i64)))], [(3, (.val (.int .i64))), (6, (.val (.int .i64)))], [3, 6, 73, 74, 75, 76, 77, 78, 79, 80, 81, 82, 83, 84, 85, 86, 87, 88, 89, 90, 91, 92, 93, 94, 95, 96, 97, 98, 99, 100, 101], [⟨.exit 4, [(3, (.val (.int .i64)))]⟩]⟩
noncomputable def lockstepref04_Small_l11_F (n : Nat) : lockstepref04_Small_l11_h.Fn := fun x y => lockstepref04_Small_l11 n x.1 x.2.1 y.1 y.2.1
noncomputable def lockstepref04_Small_l11_k (n : Nat) : Cut := lockstepref04_Small_l11_h.cut (lockstepref04_Small_l11_F n)
noncomputable def lockstepref04_Small_l3_h : Sh := ⟨[(1, (.box (.val Y_api_Func)))], [(3, (.val (.int .i64))), (4, (.val (.int .i64)))], [3, 4, 5, 6, 10, 11, 12, 13, 14, 15, 16, 17, 18, 19, 20, 21, 22, 23, 24, 25, 26, 27, 28, 29, 30, 31, 32, 33, 34, 35, 36, 37, 38, 39, 40, 41, 42, 43, 44, 45, 46, 47, 48, 49, 50, 51, 52, 53, 54, 55, 56, 57, 58, 59, 60, 61, 62, 63, 64, 65, 66, 67, 68, 69, 70, 71, 72, 73, 74, 75, 76, 77, 78, 79, 80, 81, 82, 83, 84, 85, 86, 87, 88, 89, 90, 91, 92, 93, 94, 95, 96, 97, 98, 99, 100, 101], [⟨.exit 0, [(3, (.val (.int .i64)))]⟩]⟩
noncomputable def lockstepref04_Small_l3_F (n : Nat) : lockstepref04_Small_l3_h.Fn := fun x y => lockstepref04_Small_l3 n x.1 y.1 y.2.1
noncomputable def lockstepref04_Small_l3_k (n : Nat) : Cut := lockstepref04_Small_l3_h.cut (lockstepref04_Small_l3_F n)
noncomputable def lockstepref04_Small_e (n : Nat) : Env := mkEnv T_ A_ N_ [] [((0, 7, 8), lockstepref04_Small_l7_k n), ((0, 11, 12), lockstepref04_Small_l11_k n), ((0, 3, 4), lockstepref04_Small_l3_k n)] 104
noncomputable def lockstepref04_Small_c (n : Nat) : Con := mkCon [(.val Y_api_Func)] [(.val .bool)] (fun x => lockstepref04_Small n x.1)
theorem lockstepref04_Small_ok (n : Nat) : EnvOK Try.prog (lockstepref04_Small_e n) := mkEnv_ok tabs trivial
theorem lockstepref04_Small_l7_m (n : Nat) : CutMeets Try.prog (.loop (codeAt [1, 1, 0, 1, 0, 0, 1, 0, 0, 1, 0, 1, 0, 0] (bodyOf Try.f6))) 104 (lockstepref04_Small_l7_k n) :=
 loop_ok lockstepref04_Small_l7_h lockstepref04_Small_l7_F (E := lockstepref04_Small_e) (l := fun n => []) mixed (fun _ => rfl) lockstepref04_Small_ok (by kernel_rfl) (fun _ => by kernel_rfl) (fun n => trivial) (fun _ _ => rfl) (fun n x y => by kernel_rfl) n
theorem lockstepref04_Small_l11_m (n : Nat) : CutMeets Try.prog (.loop (codeAt [1, 1, 0, 1, 0, 0, 1, 0, 0, 1, 1, 1, 0, 0] (bodyOf Try.f6))) 104 (lockstepref04_Small_l11_k n) :=
 loop_ok lockstepref04_Small_l11_h lockstepref04_Small_l11_F (E := lockstepref04_Small_e) (l := fun n => []) mixed (fun _ => rfl) lockstepref04_Small_ok (by kernel_rfl) (fun _ => by kernel_rfl) (fun n => trivial) (fun _ _ => rfl) (fun n x y => by kernel_rfl) n
theorem lockstepref04_Small_l3_m (n : Nat) : CutMeets Try.prog (.loop (codeAt [1, 1, 0, 1, 0, 0] (bodyOf Try.f6))) 104 (lockstepref04_Small_l3_k n) :=
 loop_ok lockstepref04_Small_l3_h lockstepref04_Small_l3_F (E := lockstepref04_Small_e) (l := fun n => [(Code.loop (codeAt [1, 1, 0, 1, 0, 0, 1, 0, 0, 1, 0, 1, 0, 0] (bodyOf Try.f6)), lockstepref04_Small_l7_k n), (Code.loop (codeAt [1, 1, 0, 1, 0, 0, 1, 0, 0, 1, 1, 1, 0, 0] (bodyOf Try.f6)), lockstepref04_Small_l11_k n)]) mixed (fun _ => rfl) lockstepref04_Small_ok (by kernel_rfl) (fun _ => by kernel_rfl) (fun n => ⟨lockstepref04_Small_l7_m n, lockstepref04_Small_l11_m n, trivial⟩) (fun _ _ => rfl) (fun n x y => by kernel_rfl) n
theorem lockstepref04_Small_m (n : Nat) : Meets Try.prog 6 (lockstepref04_Small_c n) :=
 con_meets (l := [(Code.loop (codeAt [1, 1, 0, 1, 0, 0] (bodyOf Try.f6)), lockstepref04_Small_l3_k n)]) mixed Try.func6 (by kernel_rfl) (lockstepref04_Small_ok n) (by kernel_rfl) (by kernel_rfl) (by kernel_rfl) ⟨lockstepref04_Small_l3_m n, trivial⟩ (fun x => by kernel_rfl)
/-! 14 lockstep/graph.goes -/
noncomputable def graph_goes (n : Nat) (t0 : Int) : Option Int :=
 if ((t0 == 0) = true) then
  some 0
 else if ((t0 == 3) = true) then
  some 0
 else if ((t0 == 1) = true) then
  some 1
 else if ((t0 == 2) = true) then
  some 2
 else some (-1)
noncomputable def graph_goes_e (n : Nat) : Env := mkEnv T_ A_ N_ [] [] 11
noncomputable def graph_goes_c (n : Nat) : Con := mkCon [(.val (.int .i64))] [(.val (.int .i64))] (fun x => graph_goes n x.1)
theorem graph_goes_ok (n : Nat) : EnvOK Try.prog (graph_goes_e n) := mkEnv_ok tabs trivial
theorem graph_goes_m (n : Nat) : Meets Try.prog 14 (graph_goes_c n) :=
 con_meets (l := []) mixed Try.func14 (by kernel_rfl) (graph_goes_ok n) (by kernel_rfl) (by kernel_rfl) (by kernel_rfl) trivial (fun x => by kernel_rfl)
/-! 16 lockstep/graph.Of$1 -/
noncomputable def graph_Of_1 (n : Nat) (t0 : Int) (t1 : Int) : Option (Bool × Int) :=
 if (decide (t0 < 1) = false) then
  some (decide (t0 ≥ t1), t1)
 else some (true, t1)
noncomputable def graph_Of_1_e (n : Nat) : Env := mkEnv T_ A_ N_ [] [] 11
noncomputable def graph_Of_1_c (n : Nat) : Con := mkCon [(.val (.int .i64)), (.box (.val (.int .i64)))] [(.val .bool)] (fun x => graph_Of_1 n x.1 x.2.1)
theorem graph_Of_1_ok (n : Nat) : EnvOK Try.prog (graph_Of_1_e n) := mkEnv_ok tabs trivial
theorem graph_Of_1_m (n : Nat) : Meets Try.prog 16 (graph_Of_1_c n) :=
 con_meets (l := []) mixed Try.func16 (by kernel_rfl) (graph_Of_1_ok n) (by kernel_rfl) (by kernel_rfl) (by kernel_rfl) trivial (fun x => by kernel_rfl)
/-! 30 slices.IndexFunc[[]int,int] -/
noncomputable def slices_IndexFunc_int_int_graph_Of_1_l2 : Nat → (List Int) → (Int × Unit) → Int → Int → Option (Sum (Int × Unit) (Int × (Int × Unit)))
 | 0, _, _, _, _ => none
 | n + 1, t0, t1, t7, t8 =>
  if (decide (t8 < t7) = true) then
   if ((0 ≤ t8) ∧ (t8 < (t0.length : Int))) then
    (graph_Of_1 n (t0.getD t8.toNat 0) t1.1).bind fun r0 =>
     if (r0.1 = true) then
      some (.inr (t8, r0.2, ()))
     else (slices_IndexFunc_int_int_graph_Of_1_l2 n t0 (r0.2, ()) t7 (IntKind.wrap .i64 (t8 + 1)))
   else none
  else some (.inl t1)
noncomputable def slices_IndexFunc_int_int_graph_Of_1 (n : Nat) (t0 : (List Int)) (t1 : (Int × Unit)) : Option (Int × (Int × Unit)) :=
 (slices_IndexFunc_int_int_graph_Of_1_l2 n t0 t1 (t0.length : Int) 0).bind fun r0 =>
  match r0 with
   | .inl r1 =>
    some ((-1), r1)
   | .inr r1 =>
    some r1
noncomputable def slices_IndexFunc_int_int_graph_Of_1_l2_h : Sh := ⟨[(0, (.val (.list (.int .i64)))), (1, (.func 16 0 (.pair (.box (.val (.int .i64))) .unit))), (7, (.val (.int .i64)))], [(8, (.val (.int .i64)))], [4, 5, 8, 9, 10, 11, 12, 13, 14, 15, 16, 17, 18], [⟨.exit 0, []⟩, ⟨.ret, [(4, (.val (.int .i64)))]⟩]⟩
noncomputable def slices_IndexFunc_int_int_graph_Of_1_l2_F (n : Nat) : slices_IndexFunc_int_int_graph_Of_1_l2_h.Fn := fun x y => slices_IndexFunc_int_int_graph_Of_1_l2 n x.1 x.2.1 x.2.2.1 y.1
noncomputable def slices_IndexFunc_int_int_graph_Of_1_l2_k (n : Nat) : Cut := slices_IndexFunc_int_int_graph_Of_1_l2_h.cut (slices_IndexFunc_int_int_graph_Of_1_l2_F n)
noncomputable def slices_IndexFunc_int_int_graph_Of_1_e (n : Nat) : Env := mkEnv T_ A_ N_ [(16, graph_Of_1_c n)] [((0, 2, 6), slices_IndexFunc_int_int_graph_Of_1_l2_k n)] 19
noncomputable def slices_IndexFunc_int_int_graph_Of_1_c (n : Nat) : Con := mkCon [(.val (.list (.int .i64))), (.func 16 0 (.pair (.box (.val (.int .i64))) .unit))] [(.val (.int .i64))] (fun x => slices_IndexFunc_int_int_graph_Of_1 n x.1 x.2.1)
theorem slices_IndexFunc_int_int_graph_Of_1_ok (n : Nat) : EnvOK Try.prog (slices_IndexFunc_int_int_graph_Of_1_e n) := mkEnv_ok tabs ⟨⟨graph_Of_1_m n, fok16⟩, trivial⟩
theorem slices_IndexFunc_int_int_graph_Of_1_l2_m (n : Nat) : CutMeets Try.prog (.loop (codeAt [1, 0, 1, 0, 0] (bodyOf Try.f30))) 19 (slices_IndexFunc_int_int_graph_Of_1_l2_k n) :=
 loop_ok slices_IndexFunc_int_int_graph_Of_1_l2_h slices_IndexFunc_int_int_graph_Of_1_l2_F (E := slices_IndexFunc_int_int_graph_Of_1_e) (l := fun n => []) mixed (fun _ => rfl) slices_IndexFunc_int_int_graph_Of_1_ok (by kernel_rfl) (fun _ => by kernel_rfl) (fun n => trivial) (fun _ _ => rfl) (fun n x y => by kernel_rfl) n
theorem slices_IndexFunc_int_int_graph_Of_1_m (n : Nat) : Meets Try.prog 30 (slices_IndexFunc_int_int_graph_Of_1_c n) :=
 con_meets (l := [(Code.loop (codeAt [1, 0, 1, 0, 0] (bodyOf Try.f30)), slices_IndexFunc_int_int_graph_Of_1_l2_k n)]) mixed Try.func30 (by kernel_rfl) (slices_IndexFunc_int_int_graph_Of_1_ok n) (by kernel_rfl) (by kernel_rfl) (by kernel_rfl) ⟨slices_IndexFunc_int_int_graph_Of_1_l2_m n, trivial⟩ (fun x => by kernel_rfl)
/-! 15 slices.ContainsFunc[[]int,int] -/
noncomputable def slices_ContainsFunc_int_int_graph_Of_1 (n : Nat) (t0 : (List Int)) (t1 : (Int × Unit)) : Option (Bool × (Int × Unit)) :=
 (slices_IndexFunc_int_int_graph_Of_1 n t0 t1).bind fun r0 =>
  some (decide (r0.1 ≥ 0), r0.2)
noncomputable def slices_ContainsFunc_int_int_graph_Of_1_e (n : Nat) : Env := mkEnv T_ A_ N_ [(16, graph_Of_1_c n), (30, slices_IndexFunc_int_int_graph_Of_1_c n)] [] 9
noncomputable def slices_ContainsFunc_int_int_graph_Of_1_c (n : Nat) : Con := mkCon [(.val (.list (.int .i64))), (.func 16 0 (.pair (.box (.val (.int .i64))) .unit))] [(.val .bool)] (fun x => slices_ContainsFunc_int_int_graph_Of_1 n x.1 x.2.1)
theorem slices_ContainsFunc_int_int_graph_Of_1_ok (n : Nat) : EnvOK Try.prog (slices_ContainsFunc_int_int_graph_Of_1_e n) := mkEnv_ok tabs ⟨⟨graph_Of_1_m n, fok16⟩, ⟨slices_IndexFunc_int_int_graph_Of_1_m n, fok30⟩, trivial⟩
theorem slices_ContainsFunc_int_int_graph_Of_1_m (n : Nat) : Meets Try.prog 15 (slices_ContainsFunc_int_int_graph_Of_1_c n) :=
 con_meets (l := []) mixed Try.func15 (by kernel_rfl) (slices_ContainsFunc_int_int_graph_Of_1_ok n) (by kernel_rfl) (by kernel_rfl) (by kernel_rfl) trivial (fun x => by kernel_rfl)
/-! 19 slices.Values[[]int,int] -/
noncomputable def slices_Values_int_int (n : Nat) (t0 : (List Int)) : Option (List Int) :=
 some t0
noncomputable def slices_Values_int_int_e (n : Nat) : Env := mkEnv T_ A_ N_ [] [] 4
noncomputable def slices_Values_int_int_c (n : Nat) : Con := mkCon [(.val (.list (.int .i64)))] [(.func 33 0 (.box (.val (.list (.int .i64)))))] (fun x => slices_Values_int_int n x.1)
theorem slices_Values_int_int_ok (n : Nat) : EnvOK Try.prog (slices_Values_int_int_e n) := mkEnv_ok tabs trivial
theorem slices_Values_int_int_m (n : Nat) : Meets Try.prog 19 (slices_Values_int_int_c n) :=
 con_meets (l := []) mixed Try.func19 (by kernel_rfl) (slices_Values_int_int_ok n) (by kernel_rfl) (by kernel_rfl) (by kernel_rfl) trivial (fun x => by kernel_rfl)
/- slices_Collect_int_slices_Values_int_int_1 : Nat → (List Int) → Option ((List Int) × (List Int)) is given by hand: slices_Collect_int_slices_Values_int_int_1, slices_Collect_int_slices_Values_int_int_1_c, slices_Collect_int_slices_Values_int_int_1_m -/
/- slices_Sort_int_int : Nat → (List Int) → Option (List Int) is given by hand: slices_Sort_int_int, slices_Sort_int_int_c, slices_Sort_int_int_m -/
/- slices_Sort_int_int_f32 : Nat → (List Int) → Option Unit is given by hand: slices_Sort_int_int_f32, slices_Sort_int_int_f32_c, slices_Sort_int_int_f32_m -/
/-! 18 slices.Sorted[int] -/
noncomputable def slices_Sorted_int_slices_Values_int_int_1 (n : Nat) (t0 : (List Int)) : Option ((List Int) × (List Int)) :=
 (slices_Collect_int_slices_Values_int_int_1 n t0).bind fun r0 =>
  if (0 < r0.1.length) then
   if (0 < r0.1.length) then
    (slices_Sort_int_int n r0.1).bind fun r1 =>
     some (r1, r0.2)
   else none
  else (slices_Sort_int_int_f32 n r0.1).bind fun r1 =>
   some r0
noncomputable def slices_Sorted_int_slices_Values_int_int_1_e (n : Nat) : Env := mkEnv T_ A_ N_ [(31, slices_Collect_int_slices_Values_int_int_1_c n), (32, slices_Sort_int_int_c n), (32, slices_Sort_int_int_f32_c n)] [] 9
noncomputable def slices_Sorted_int_slices_Values_int_int_1_c (n : Nat) : Con := mkCon [(.func 33 0 (.box (.val (.list (.int .i64)))))] [(.own (.int .i64))] (fun x => slices_Sorted_int_slices_Values_int_int_1 n x.1)
theorem slices_Sorted_int_slices_Values_int_int_1_ok (n : Nat) : EnvOK Try.prog (slices_Sorted_int_slices_Values_int_int_1_e n) := mkEnv_ok tabs ⟨⟨slices_Collect_int_slices_Values_int_int_1_m n, fok31⟩, ⟨slices_Sort_int_int_m n, fok32⟩, ⟨slices_Sort_int_int_f32_m n, fok32⟩, trivial⟩
theorem slices_Sorted_int_slices_Values_int_int_1_m (n : Nat) : Meets Try.prog 18 (slices_Sorted_int_slices_Values_int_int_1_c n) :=
 con_meets (l := []) mixed Try.func18 (by kernel_rfl) (slices_Sorted_int_slices_Values_int_int_1_ok n) (by kernel_rfl) (by kernel_rfl) (by kernel_rfl) trivial (fun x => by kernel_rfl)
/- slices_Compact_int_int : Nat → (List Int) → Option (List Int) is given by hand: slices_Compact_int_int, slices_Compact_int_int_c, slices_Compact_int_int_m -/
/-! 7 lockstep/graph.Of -/
noncomputable def graph_Of_l6 : Nat → L_api_Graph → Int → (List L_api_Block) → Int → (List (List Int)) → Int → Option (Sum ((List (List Int)) × (L_api_Graph × Int)) (Int × (L_api_Graph × Int)))
 | 0, _, _, _, _, _, _ => none
 | n + 1, t2, t4, t15, t16, t5, t17 =>
  if (decide (t17 < t16) = true) then
   if ((0 ≤ t17) ∧ (t17 < (t15.length : Int))) then
    (graph_goes n (((((t15.getD t17.toNat ([], [], (0, 0, [], ()), ())).2).2).1).1)).bind fun r0 =>
     if ((r0 != ((((((((t15.getD t17.toNat ([], [], (0, 0, [], ()), ())).2).2).1).2).2).1).length : Int)) = false) then
      (slices_ContainsFunc_int_int_graph_Of_1 n (((((((t15.getD t17.toNat ([], [], (0, 0, [], ()), ())).2).2).1).2).2).1) (t4, ())).bind fun r1 =>
       if (r1.1 = true) then
        some (.inr (5, ([], [], ()), r1.2.1))
       else (slices_Values_int_int n (((((((t15.getD t17.toNat ([], [], (0, 0, [], ()), ())).2).2).1).2).2).1)).bind fun r2 =>
        (slices_Sorted_int_slices_Values_int_int_1 n r2).bind fun r3 =>
         (slices_Compact_int_int n r3.1).bind fun r4 =>
          if ((t5 ++ [r4]).length ≤ Ev.most) then
           (graph_Of_l6 n t2 r1.2.1 t15 t16 (t5 ++ [r4]) (IntKind.wrap .i64 (t17 + 1)))
          else none
     else some (.inr (5, ([], [], ()), t4))
   else none
  else some (.inl (t5, t2, t4))
noncomputable def graph_Of (n : Nat) (t0 : L_api_Func) : Option (L_api_Graph × Int) :=
 if (decide ((t0.2.2.1.length : Int) > 64) = true) then
  some (([], [], ()), 5)
 else (graph_Of_l6 n ([], [], ()) (t0.2.2.1.length : Int) t0.2.2.1 (t0.2.2.1.length : Int) [] 0).bind fun r0 =>
  match r0 with
   | .inl r1 =>
    (graph_Make n r1.1).bind fun r2 =>
     some r2
   | .inr r1 =>
    some (r1.2.1, r1.1)
noncomputable def graph_Of_l6_h : Sh := ⟨[(2, (.box (.val Y_api_Graph))), (4, (.box (.val (.int .i64)))), (15, (.val (.list Y_api_Block))), (16, (.val (.int .i64)))], [(5, (.own (.list (.int .i64)))), (17, (.val (.int .i64)))], [3, 5, 7, 17, 18, 19, 20, 21, 22, 23, 24, 25, 26, 27, 28, 29, 30, 31, 32, 33, 34, 35, 36, 37, 38, 39, 40, 41, 42, 43, 44, 45, 46, 47], [⟨.exit 0, [(5, (.own (.list (.int .i64))))]⟩, ⟨.ret, [(3, (.val (.int .i64)))]⟩]⟩
noncomputable def graph_Of_l6_F (n : Nat) : graph_Of_l6_h.Fn := fun x y => graph_Of_l6 n x.1 x.2.1 x.2.2.1 x.2.2.2.1 y.1 y.2.1
noncomputable def graph_Of_l6_k (n : Nat) : Cut := graph_Of_l6_h.cut (graph_Of_l6_F n)
noncomputable def graph_Of_e (n : Nat) : Env := mkEnv T_ A_ N_ [(12, graph_Make_c n), (14, graph_goes_c n), (16, graph_Of_1_c n), (15, slices_ContainsFunc_int_int_graph_Of_1_c n), (19, slices_Values_int_int_c n), (18, slices_Sorted_int_slices_Values_int_int_1_c n), (17, slices_Compact_int_int_c n)] [((0, 6, 11), graph_Of_l6_k n)] 52
noncomputable def graph_Of_c (n : Nat) : Con := mkCon [(.val Y_api_Func)] [(.val Y_api_Graph), (.val (.int .i64))] (fun x => graph_Of n x.1)
theorem graph_Of_ok (n : Nat) : EnvOK Try.prog (graph_Of_e n) := mkEnv_ok tabs ⟨⟨graph_Make_m n, fok12⟩, ⟨graph_goes_m n, fok14⟩, ⟨graph_Of_1_m n, fok16⟩, ⟨slices_ContainsFunc_int_int_graph_Of_1_m n, fok15⟩, ⟨slices_Values_int_int_m n, fok19⟩, ⟨slices_Sorted_int_slices_Values_int_int_1_m n, fok18⟩, ⟨slices_Compact_int_int_m n, fok17⟩, trivial⟩
theorem graph_Of_l6_m (n : Nat) : CutMeets Try.prog (.loop (codeAt [1, 1, 1, 1, 0, 1, 0, 0] (bodyOf Try.f7))) 52 (graph_Of_l6_k n) :=
 loop_ok graph_Of_l6_h graph_Of_l6_F (E := graph_Of_e) (l := fun n => []) mixed (fun _ => rfl) graph_Of_ok (by kernel_rfl) (fun _ => by kernel_rfl) (fun n => trivial) (fun _ _ => rfl) (fun n x y => by kernel_rfl) n
theorem graph_Of_m (n : Nat) : Meets Try.prog 7 (graph_Of_c n) :=
 con_meets (l := [(Code.loop (codeAt [1, 1, 1, 1, 0, 1, 0, 0] (bodyOf Try.f7)), graph_Of_l6_k n)]) mixed Try.func7 (by kernel_rfl) (graph_Of_ok n) (by kernel_rfl) (by kernel_rfl) (by kernel_rfl) ⟨graph_Of_l6_m n, trivial⟩ (fun x => by kernel_rfl)
/-! 11 lockstep/lockstepref06.Has -/
noncomputable def lockstepref06_Has_l2 : Nat → (List Int) → Int → Int → Option (Sum Unit Bool)
 | 0, _, _, _ => none
 | n + 1, t0, t1, t5 =>
  if (decide (t5 < (t0.length : Int)) = true) then
   if ((0 ≤ t5) ∧ (t5 < (t0.length : Int))) then
    if (((t0.getD t5.toNat 0) == t1) = true) then
     some (.inr true)
    else (lockstepref06_Has_l2 n t0 t1 (IntKind.wrap .i64 (t5 + 1)))
   else none
  else some (.inl ())
noncomputable def lockstepref06_Has (n : Nat) (t0 : (List Int)) (t1 : Int) : Option Bool :=
 (lockstepref06_Has_l2 n t0 t1 0).bind fun r0 =>
  match r0 with
   | .inl r1 =>
    some false
   | .inr r1 =>
    some r1
noncomputable def lockstepref06_Has_l2_h : Sh := ⟨[(0, (.val (.list (.int .i64)))), (1, (.val (.int .i64)))], [(5, (.val (.int .i64)))], [4, 5, 6, 7, 8, 9, 10, 11, 12, 13, 14, 15, 16, 17], [⟨.exit 0, []⟩, ⟨.ret, [(4, (.val .bool))]⟩]⟩
noncomputable def lockstepref06_Has_l2_F (n : Nat) : lockstepref06_Has_l2_h.Fn := fun x y => lockstepref06_Has_l2 n x.1 x.2.1 y.1
noncomputable def lockstepref06_Has_l2_k (n : Nat) : Cut := lockstepref06_Has_l2_h.cut (lockstepref06_Has_l2_F n)
noncomputable def lockstepref06_Has_e (n : Nat) : Env := mkEnv T_ A_ N_ [] [((0, 2, 3), lockstepref06_Has_l2_k n)] 18
noncomputable def lockstepref06_Has_c (n : Nat) : Con := mkCon [(.val (.list (.int .i64))), (.val (.int .i64))] [(.val .bool)] (fun x => lockstepref06_Has n x.1 x.2.1)
theorem lockstepref06_Has_ok (n : Nat) : EnvOK Try.prog (lockstepref06_Has_e n) := mkEnv_ok tabs trivial
theorem lockstepref06_Has_l2_m (n : Nat) : CutMeets Try.prog (.loop (codeAt [1, 0, 1, 0, 0] (bodyOf Try.f11))) 18 (lockstepref06_Has_l2_k n) :=
 loop_ok lockstepref06_Has_l2_h lockstepref06_Has_l2_F (E := lockstepref06_Has_e) (l := fun n => []) mixed (fun _ => rfl) lockstepref06_Has_ok (by kernel_rfl) (fun _ => by kernel_rfl) (fun n => trivial) (fun _ _ => rfl) (fun n x y => by kernel_rfl) n
theorem lockstepref06_Has_m (n : Nat) : Meets Try.prog 11 (lockstepref06_Has_c n) :=
 con_meets (l := [(Code.loop (codeAt [1, 0, 1, 0, 0] (bodyOf Try.f11)), lockstepref06_Has_l2_k n)]) mixed Try.func11 (by kernel_rfl) (lockstepref06_Has_ok n) (by kernel_rfl) (by kernel_rfl) (by kernel_rfl) ⟨lockstepref06_Has_l2_m n, trivial⟩ (fun x => by kernel_rfl)
/-! 20 lockstep/lockstepref06.Make -/
noncomputable def lockstepref06_Make_l8 : Nat → (List (List Int)) → L_api_Graph → Int → Int → Int → Option (Sum L_api_Graph (Int × L_api_Graph))
 | 0, _, _, _, _, _ => none
 | n + 1, t0, t2, t4, t5, t6 =>
  if ((0 ≤ t5) ∧ (t5 < (t0.length : Int))) then
   if (decide (t6 < ((t0.getD t5.toNat []).length : Int)) = true) then
    if ((0 ≤ t5) ∧ (t5 < (t0.length : Int))) then
     if ((0 ≤ t6) ∧ (t6 < ((t0.getD t5.toNat []).length : Int))) then
      if (decide (((t0.getD t5.toNat []).getD t6.toNat 0) < 0) = false) then
       if ((0 ≤ t5) ∧ (t5 < (t0.length : Int))) then
        if ((0 ≤ t6) ∧ (t6 < ((t0.getD t5.toNat []).length : Int))) then
         if (decide (((t0.getD t5.toNat []).getD t6.toNat 0) ≥ t4) = false) then
          if (decide (t6 > 0) = true) then
           if ((0 ≤ t5) ∧ (t5 < (t0.length : Int))) then
            if ((0 ≤ t6) ∧ (t6 < ((t0.getD t5.toNat []).length : Int))) then
             if ((0 ≤ t5) ∧ (t5 < (t0.length : Int))) then
              if ((0 ≤ (IntKind.wrap .i64 (t6 - 1))) ∧ ((IntKind.wrap .i64 (t6 - 1)) < ((t0.getD t5.toNat []).length : Int))) then
               if (decide (((t0.getD t5.toNat []).getD t6.toNat 0) ≤ ((t0.getD t5.toNat []).getD ((IntKind.wrap .i64 (t6 - 1)).toNat) 0)) = true) then
                some (.inr (5, [], [], ()))
               else (lockstepref06_Make_l8 n t0 t2 t4 t5 (IntKind.wrap .i64 (t6 + 1)))
              else none
             else none
            else none
           else none
          else (lockstepref06_Make_l8 n t0 t2 t4 t5 (IntKind.wrap .i64 (t6 + 1)))
         else some (.inr (5, [], [], ()))
        else none
       else none
      else some (.inr (5, [], [], ()))
     else none
    else none
   else some (.inl t2)
  else none
noncomputable def lockstepref06_Make_l5 : Nat → (List (List Int)) → L_api_Graph → Int → Int → Option (Sum L_api_Graph (Int × L_api_Graph))
 | 0, _, _, _, _ => none
 | n + 1, t0, t2, t4, t5 =>
  if (decide (t5 < t4) = true) then
   (lockstepref06_Make_l8 n t0 t2 t4 t5 0).bind fun r0 =>
    match r0 with
     | .inl r1 =>
      (lockstepref06_Make_l5 n t0 r1 t4 (IntKind.wrap .i64 (t5 + 1)))
     | .inr r1 =>
      some (.inr r1)
  else some (.inl t2)
noncomputable def lockstepref06_Make_l17 : Nat → (List (List Int)) → L_api_Graph → Int → L_api_Graph → Int → Int → Option (L_api_Graph × L_api_Graph)
 | 0, _, _, _, _, _, _ => none
 | n + 1, t0, t2, t4, t7, t8, t9 =>
  if (decide (t9 < t4) = true) then
   if ((0 ≤ t9) ∧ (t9 < (t0.length : Int))) then
    (lockstepref06_Has n (t0.getD t9.toNat []) t8).bind fun r0 =>
     if (r0 = true) then
      if ((0 ≤ t8) ∧ (t8 < (t7.2.1.length : Int))) then
       if (((t7.2.1.getD t8.toNat []) ++ [t9]).length ≤ Ev.most) then
        if ((0 ≤ t8) ∧ (t8 < (t7.2.1.length : Int))) then
         if (t8.toNat = t8.toNat) then
          (lockstepref06_Make_l17 n t0 t2 t4 (t7.1, (t7.2.1.set t8.toNat ((t7.2.1.getD t8.toNat []) ++ [t9])), ()) t8 (IntKind.wrap .i64 (t9 + 1)))
         else none
        else none
       else none
      else none
     else (lockstepref06_Make_l17 n t0 t2 t4 t7 t8 (IntKind.wrap .i64 (t9 + 1)))
   else none
  else some (t2, t7)
noncomputable def lockstepref06_Make_l14 : Nat → (List (List Int)) → L_api_Graph → Int → L_api_Graph → Int → Option (L_api_Graph × L_api_Graph)
 | 0, _, _, _, _, _ => none
 | n + 1, t0, t2, t4, t7, t8 =>
  if (decide (t8 < t4) = true) then
   (lockstepref06_Make_l17 n t0 t2 t4 t7 t8 0).bind fun r0 =>
    (lockstepref06_Make_l14 n t0 r0.1 t4 r0.2 (IntKind.wrap .i64 (t8 + 1)))
  else some (t2, t7)
noncomputable def lockstepref06_Make (n : Nat) (t0 : (List (List Int))) : Option (L_api_Graph × Int) :=
 if (((t0.length : Int) == 0) = false) then
  if (decide ((t0.length : Int) > 64) = true) then
   some (([], [], ()), 5)
  else (lockstepref06_Make_l5 n t0 ([], [], ()) (t0.length : Int) 0).bind fun r0 =>
   match r0 with
    | .inl r1 =>
     if ((0 ≤ (t0.length : Int)) ∧ (((t0.length : Int) ≤ (t0.length : Int)) ∧ ((t0.length : Int) ≤ 8589934592))) then
      (lockstepref06_Make_l14 n t0 r1 (t0.length : Int) (t0, (List.replicate ((t0.length : Int).toNat) []), ()) 0).bind fun r2 =>
       some (r2.2, 0)
     else none
    | .inr r1 =>
     some (r1.2, r1.1)
 else some (([], [], ()), 5)
noncomputable def lockstepref06_Make_l8_h : Sh := ⟨[(0, (.val (.list (.list (.int .i64))))), (2, (.box (.val Y_api_Graph))), (4, (.val (.int .i64))), (5, (.val (.int .i64)))], [(6, (.val (.int .i64)))], [3, 6, 24, 25, 26, 27, 28, 29, 30, 31, 32, 33, 34, 35, 36, 37, 38, 39, 40, 41, 42, 43, 44, 45, 46, 47, 48, 49, 50, 51, 52, 53, 54, 55, 56, 57, 58, 59, 60, 61, 62, 63, 64, 65, 66, 67, 68, 69, 70, 71, 72, 73, 74], [⟨.exit 2, []⟩, ⟨.ret, [(3, (.val (.int .i64)))]⟩]⟩
noncomputable def lockstepref06_Make_l8_F (n : Nat) : lockstepref06_Make_l8_h.Fn := fun x y => lockstepref06_Make_l8 n x.1 x.2.1 x.2.2.1 x.2.2.2.1 y.1
noncomputable def lockstepref06_Make_l8_k (n : Nat) : Cut := lockstepref06_Make_l8_h.cut (lockstepref06_Make_l8_F n)
noncomputable def lockstepref06_Make_l5_h : Sh := ⟨[(0, (.val (.list (.list (.int .i64))))), (2, (.box (.val Y_api_Graph))), (4, (.val (.int .i64)))], [(5, (.val (.int .i64)))], [3, 5, 6, 19, 20, 21, 22, 23, 24, 25, 26, 27, 28, 29, 30, 31, 32, 33, 34, 35, 36, 37, 38, 39, 40, 41, 42, 43, 44, 45, 46, 47, 48, 49, 50, 51, 52, 53, 54, 55, 56, 57, 58, 59, 60, 61, 62, 63, 64, 65, 66, 67, 68, 69, 70, 71, 72, 73, 74], [⟨.exit 0, []⟩, ⟨.ret, [(3, (.val (.int .i64)))]⟩]⟩
noncomputable def lockstepref06_Make_l5_F (n : Nat) : lockstepref06_Make_l5_h.Fn := fun x y => lockstepref06_Make_l5 n x.1 x.2.1 x.2.2.1 y.1
noncomputable def lockstepref06_Make_l5_k (n : Nat) : Cut := lockstepref06_Make_l5_h.cut (lockstepref06_Make_l5_F n)
noncomputable def lockstepref06_Make_l17_h : Sh := ⟨[(0, (.val (.list (.list (.int .i64))))), (2, (.box (.val Y_api_Graph))), (4, (.val (.int .i64))), (7, (.box (.pair (.val (.list (.list (.int .i64)))) (.pair (.rows (.int .i64)) .unit)))), (8, (.val (.int .i64)))], [(9, (.val (.int .i64)))], [9, 84, 85, 86, 87, 88, 89, 90, 91, 92, 93, 94, 95, 96, 97, 98, 99, 100, 101, 102, 103, 104, 105, 106], [⟨.exit 6, []⟩]⟩
noncomputable def lockstepref06_Make_l17_F (n : Nat) : lockstepref06_Make_l17_h.Fn := fun x y => lockstepref06_Make_l17 n x.1 x.2.1 x.2.2.1 x.2.2.2.1 x.2.2.2.2.1 y.1
noncomputable def lockstepref06_Make_l17_k (n : Nat) : Cut := lockstepref06_Make_l17_h.cut (lockstepref06_Make_l17_F n)
noncomputable def lockstepref06_Make_l14_h : Sh := ⟨[(0, (.val (.list (.list (.int .i64))))), (2, (.box (.val Y_api_Graph))), (4, (.val (.int .i64))), (7, (.box (.pair (.val (.list (.list (.int .i64)))) (.pair (.rows (.int .i64)) .unit))))], [(8, (.val (.int .i64)))], [8, 9, 79, 80, 81, 82, 83, 84, 85, 86, 87, 88, 89, 90, 91, 92, 93, 94, 95, 96, 97, 98, 99, 100, 101, 102, 103, 104, 105, 106], [⟨.exit 4, []⟩]⟩
noncomputable def lockstepref06_Make_l14_F (n : Nat) : lockstepref06_Make_l14_h.Fn := fun x y => lockstepref06_Make_l14 n x.1 x.2.1 x.2.2.1 x.2.2.2.1 y.1
noncomputable def lockstepref06_Make_l14_k (n : Nat) : Cut := lockstepref06_Make_l14_h.cut (lockstepref06_Make_l14_F n)
noncomputable def lockstepref06_Make_e (n : Nat) : Env := mkEnv T_ A_ N_ [(11, lockstepref06_Has_c n)] [((0, 8, 9), lockstepref06_Make_l8_k n), ((0, 5, 6), lockstepref06_Make_l5_k n), ((0, 17, 18), lockstepref06_Make_l17_k n), ((0, 14, 15), lockstepref06_Make_l14_k n)] 108
noncomputable def lockstepref06_Make_c (n : Nat) : Con := mkCon [(.val (.list (.list (.int .i64))))] [(.val Y_api_Graph), (.val (.int .i64))] (fun x => lockstepref06_Make n x.1)
theorem lockstepref06_Make_ok (n : Nat) : EnvOK Try.prog (lockstepref06_Make_e n) := mkEnv_ok tabs ⟨⟨lockstepref06_Has_m n, fok11⟩, trivial⟩
theorem lockstepref06_Make_l8_m (n : Nat) : CutMeets Try.prog (.loop (codeAt [1, 1, 1, 0, 1, 0, 0, 1, 0, 0, 1, 0, 0] (bodyOf Try.f20))) 108 (lockstepref06_Make_l8_k n) :=
 loop_ok lockstepref06_Make_l8_h lockstepref06_Make_l8_F (E := lockstepref06_Make_e) (l := fun n => []) mixed (fun _ => rfl) lockstepref06_Make_ok (by kernel_rfl) (fun _ => by kernel_rfl) (fun n => trivial) (fun _ _ => rfl) (fun n x y => by kernel_rfl) n
theorem lockstepref06_Make_l5_m (n : Nat) : CutMeets Try.prog (.loop (codeAt [1, 1, 1, 0, 1, 0, 0] (bodyOf Try.f20))) 108 (lockstepref06_Make_l5_k n) :=
 loop_ok lockstepref06_Make_l5_h lockstepref06_Make_l5_F (E := lockstepref06_Make_e) (l := fun n => [(Code.loop (codeAt [1, 1, 1, 0, 1, 0, 0, 1, 0, 0, 1, 0, 0] (bodyOf Try.f20)), lockstepref06_Make_l8_k n)]) mixed (fun _ => rfl) lockstepref06_Make_ok (by kernel_rfl) (fun _ => by kernel_rfl) (fun n => ⟨lockstepref06_Make_l8_m n, trivial⟩) (fun _ _ => rfl) (fun n x y => by kernel_rfl) n
theorem lockstepref06_Make_l17_m (n : Nat) : CutMeets Try.prog (.loop (codeAt [1, 1, 1, 1, 1, 0, 1, 0, 0, 1, 0, 0, 1, 0, 0] (bodyOf Try.f20))) 108 (lockstepref06_Make_l17_k n) :=
 loop_ok lockstepref06_Make_l17_h lockstepref06_Make_l17_F (E := lockstepref06_Make_e) (l := fun n => []) mixed (fun _ => rfl) lockstepref06_Make_ok (by kernel_rfl) (fun _ => by kernel_rfl) (fun n => trivial) (fun _ _ => rfl) (fun n x y => by kernel_rfl) n
theorem lockstepref06_Make_l14_m (n : Nat) : CutMeets Try.prog (.loop (codeAt [1, 1, 1, 1, 1, 0, 1, 0, 0] (bodyOf Try.f20))) 108 (lockstepref06_Make_l14_k n) :=
 loop_ok lockstepref06_Make_l14_h lockstepref06_Make_l14_F (E := lockstepref06_Make_e) (l := fun n => [(Code.loop (codeAt [1, 1, 1, 1, 1, 0, 1, 0, 0, 1, 0, 0, 1, 0, 0] (bodyOf Try.f20)), lockstepref06_Make_l17_k n)]) mixed (fun _ => rfl) lockstepref06_Make_ok (by kernel_rfl) (fun _ => by kernel_rfl) (fun n => ⟨lockstepref06_Make_l17_m n, trivial⟩) (fun _ _ => rfl) (fun n x y => by kernel_rfl) n
theorem lockstepref06_Make_m (n : Nat) : Meets Try.prog 20 (lockstepref06_Make_c n) :=
 con_meets (l := [(Code.loop (codeAt [1, 1, 1, 0, 1, 0, 0] (bodyOf Try.f20)), lockstepref06_Make_l5_k n), (Code.loop (codeAt [1, 1, 1, 1, 1, 0, 1, 0, 0] (bodyOf Try.f20)), lockstepref06_Make_l14_k n)]) mixed Try.func20 (by kernel_rfl) (lockstepref06_Make_ok n) (by kernel_rfl) (by kernel_rfl) (by kernel_rfl) ⟨lockstepref06_Make_l5_m n, lockstepref06_Make_l14_m n, trivial⟩ (fun x => by kernel_rfl)
/-! 8 lockstep/lockstepref06.Of -/
noncomputable def lockstepref06_Of_l13 : Nat → L_api_Func → L_api_Graph → Int → Int → L_api_End → (List (List Int)) → (List Int) → Int → Option (Sum ((List (List Int)) × ((List Int) × (L_api_Func × (L_api_Graph × L_api_End)))) (Int × (L_api_Func × (L_api_Graph × L_api_End))))
 | 0, _, _, _, _, _, _, _, _ => none
 | n + 1, t1, t2, t4, t6, t7, t5, t8, t9 =>
  if (decide (t9 < (t7.2.2.1.length : Int)) = true) then
   if ((0 ≤ t9) ∧ (t9 < (t7.2.2.1.length : Int))) then
    if (decide ((t7.2.2.1.getD t9.toNat 0) ≤ 0) = false) then
     if ((0 ≤ t9) ∧ (t9 < (t7.2.2.1.length : Int))) then
      if (decide ((t7.2.2.1.getD t9.toNat 0) ≥ t4) = true) then
       some (.inr (5, t1, ([], [], ()), t7))
      else (lockstepref06_Of_l13 n t1 t2 t4 t6 t7 t5 t8 (IntKind.wrap .i64 (t9 + 1)))
     else none
    else some (.inr (5, t1, ([], [], ()), t7))
   else none
  else some (.inl (t5, t8, t1, t2, t7))
noncomputable def lockstepref06_Of_l18 : Nat → L_api_Func → L_api_Graph → Int → Int → L_api_End → (List (List Int)) → (List Int) → Int → Option ((List (List Int)) × ((List Int) × (L_api_Func × (L_api_Graph × L_api_End))))
 | 0, _, _, _, _, _, _, _, _ => none
 | n + 1, t1, t2, t4, t6, t7, t5, t8, t10 =>
  if (decide (t10 < t4) = true) then
   (lockstepref06_Has n t7.2.2.1 t10).bind fun r0 =>
    if (r0 = true) then
     if ((t8 ++ [t10]).length ≤ Ev.most) then
      (lockstepref06_Of_l18 n t1 t2 t4 t6 t7 t5 (t8 ++ [t10]) (IntKind.wrap .i64 (t10 + 1)))
     else none
    else (lockstepref06_Of_l18 n t1 t2 t4 t6 t7 t5 t8 (IntKind.wrap .i64 (t10 + 1)))
  else some (t5, t8, t1, t2, t7)
noncomputable def lockstepref06_Of_l6 : Nat → L_api_Func → L_api_Graph → Int → (List (List Int)) → Int → Option (Sum ((List (List Int)) × (L_api_Func × L_api_Graph)) (Int × (L_api_Func × L_api_Graph)))
 | 0, _, _, _, _, _ => none
 | n + 1, t1, t2, t4, t5, t6 =>
  if (decide (t6 < t4) = true) then
   if ((0 ≤ t6) ∧ (t6 < (t1.2.2.1.length : Int))) then
    if (decide (((((t1.2.2.1.getD t6.toNat ([], [], (0, 0, [], ()), ())).2).2).1).1 < 0) = false) then
     if (decide (((((t1.2.2.1.getD t6.toNat ([], [], (0, 0, [], ()), ())).2).2).1).1 > 3) = false) then
      if ((0 ≤ ((((t1.2.2.1.getD t6.toNat ([], [], (0, 0, [], ()), ())).2).2).1).1) ∧ (((((t1.2.2.1.getD t6.toNat ([], [], (0, 0, [], ()), ())).2).2).1).1 < 4)) then
       if ((((((((((t1.2.2.1.getD t6.toNat ([], [], (0, 0, [], ()), ())).2).2).1).2).2).1).length : Int) != (([0, 1, 2, 0]).getD ((((((t1.2.2.1.getD t6.toNat ([], [], (0, 0, [], ()), ())).2).2).1).1).toNat) 0)) = true) then
        some (.inr (5, t1, [], [], ()))
       else (lockstepref06_Of_l13 n t1 t2 t4 t6 ((((t1.2.2.1.getD t6.toNat ([], [], (0, 0, [], ()), ())).2).2).1) t5 [] 0).bind fun r0 =>
        match r0 with
         | .inl r1 =>
          (lockstepref06_Of_l18 n r1.2.2.1 r1.2.2.2.1 t4 t6 r1.2.2.2.2 r1.1 r1.2.1 1).bind fun r2 =>
           if ((r2.1 ++ [r2.2.1]).length ≤ Ev.most) then
            (lockstepref06_Of_l6 n r2.2.2.1 r2.2.2.2.1 t4 (r2.1 ++ [r2.2.1]) (IntKind.wrap .i64 (t6 + 1)))
           else none
         | .inr r1 =>
          some (.inr (r1.1, r1.2.1, r1.2.2.1))
      else none
     else some (.inr (5, t1, [], [], ()))
    else some (.inr (5, t1, [], [], ()))
   else none
  else some (.inl (t5, t1, t2))
noncomputable def lockstepref06_Of (n : Nat) (t0 : L_api_Func) : Option (L_api_Graph × Int) :=
 if (((t0.2.2.1.length : Int) == 0) = false) then
  if (decide ((t0.2.2.1.length : Int) > 64) = true) then
   some (([], [], ()), 5)
  else (lockstepref06_Of_l6 n t0 ([], [], ()) (t0.2.2.1.length : Int) [] 0).bind fun r0 =>
   match r0 with
    | .inl r1 =>
     (lockstepref06_Make n r1.1).bind fun r2 =>
      some r2
    | .inr r1 =>
     some (r1.2.2, r1.1)
 else some (([], [], ()), 5)
noncomputable def lockstepref06_Of_l13_h : Sh := ⟨[(1, (.box (.val Y_api_Func))), (2, (.box (.val Y_api_Graph))), (4, (.val (.int .i64))), (6, (.val (.int .i64))), (7, (.box (.val Y_api_End)))], [(5, (.own (.list (.int .i64)))), (8, (.own (.int .i64))), (9, (.val (.int .i64)))], [3, 5, 8, 9, 52, 53, 54, 55, 56, 57, 58, 59, 60, 61, 62, 63, 64, 65, 66, 67, 68, 69, 70, 71, 72, 73, 74], [⟨.exit 2, [(5, (.own (.list (.int .i64)))), (8, (.own (.int .i64)))]⟩, ⟨.ret, [(3, (.val (.int .i64)))]⟩]⟩
noncomputable def lockstepref06_Of_l13_F (n : Nat) : lockstepref06_Of_l13_h.Fn := fun x y => lockstepref06_Of_l13 n x.1 x.2.1 x.2.2.1 x.2.2.2.1 x.2.2.2.2.1 y.1 y.2.1 y.2.2.1
noncomputable def lockstepref06_Of_l13_k (n : Nat) : Cut := lockstepref06_Of_l13_h.cut (lockstepref06_Of_l13_F n)
noncomputable def lockstepref06_Of_l18_h : Sh := ⟨[(1, (.box (.val Y_api_Func))), (2, (.box (.val Y_api_Graph))), (4, (.val (.int .i64))), (6, (.val (.int .i64))), (7, (.box (.val Y_api_End)))], [(5, (.own (.list (.int .i64)))), (8, (.own (.int .i64))), (10, (.val (.int .i64)))], [5, 8, 10, 75, 76, 77, 78, 79, 80, 81, 82, 83, 84, 85, 86, 87], [⟨.exit 4, [(5, (.own (.list (.int .i64)))), (8, (.own (.int .i64)))]⟩]⟩
noncomputable def lockstepref06_Of_l18_F (n : Nat) : lockstepref06_Of_l18_h.Fn := fun x y => lockstepref06_Of_l18 n x.1 x.2.1 x.2.2.1 x.2.2.2.1 x.2.2.2.2.1 y.1 y.2.1 y.2.2.1
noncomputable def lockstepref06_Of_l18_k (n : Nat) : Cut := lockstepref06_Of_l18_h.cut (lockstepref06_Of_l18_F n)
noncomputable def lockstepref06_Of_l6_h : Sh := ⟨[(1, (.box (.val Y_api_Func))), (2, (.box (.val Y_api_Graph))), (4, (.val (.int .i64)))], [(5, (.own (.list (.int .i64)))), (6, (.val (.int .i64)))], [3, 5, 6, 7, 8, 9, 10, 21, 22, 23, 24, 25, 26, 27, 28, 29, 30, 31, 32, 33, 34, 35, 36, 37, 38, 39, 40, 41, 42, 43, 44, 45, 46, 47, 48, 49, 50, 51, 52, 53, 54, 55, 56, 57, 58, 59, 60, 61, 62, 63, 64, 65, 66, 67, 68, 69, 70, 71, 72, 73, 74, 75, 76, 77, 78, 79, 80, 81, 82, 83, 84, 85, 86, 87, 88, 89, 90, 91], [⟨.exit 0, [(5, (.own (.list (.int .i64))))]⟩, ⟨.ret, [(3, (.val (.int .i64)))]⟩]⟩
noncomputable def lockstepref06_Of_l6_F (n : Nat) : lockstepref06_Of_l6_h.Fn := fun x y => lockstepref06_Of_l6 n x.1 x.2.1 x.2.2.1 y.1 y.2.1
noncomputable def lockstepref06_Of_l6_k (n : Nat) : Cut := lockstepref06_Of_l6_h.cut (lockstepref06_Of_l6_F n)
noncomputable def lockstepref06_Of_e (n : Nat) : Env := mkEnv T_ A_ N_ [(11, lockstepref06_Has_c n), (20, lockstepref06_Make_c n)] [((0, 13, 14), lockstepref06_Of_l13_k n), ((0, 18, 19), lockstepref06_Of_l18_k n), ((0, 6, 7), lockstepref06_Of_l6_k n)] 96
noncomputable def lockstepref06_Of_c (n : Nat) : Con := mkCon [(.val Y_api_Func)] [(.val Y_api_Graph), (.val (.int .i64))] (fun x => lockstepref06_Of n x.1)
theorem lockstepref06_Of_ok (n : Nat) : EnvOK Try.prog (lockstepref06_Of_e n) := mkEnv_ok tabs ⟨⟨lockstepref06_Has_m n, fok11⟩, ⟨lockstepref06_Make_m n, fok20⟩, trivial⟩
theorem lockstepref06_Of_l13_m (n : Nat) : CutMeets Try.prog (.loop (codeAt [1, 1, 1, 1, 0, 1, 0, 0, 1, 0, 0, 1, 1, 1, 0, 1, 0, 0] (bodyOf Try.f8))) 96 (lockstepref06_Of_l13_k n) :=
 loop_ok lockstepref06_Of_l13_h lockstepref06_Of_l13_F (E := lockstepref06_Of_e) (l := fun n => []) mixed (fun _ => rfl) lockstepref06_Of_ok (by kernel_rfl) (fun _ => by kernel_rfl) (fun n => trivial) (fun _ _ => rfl) (fun n x y => by kernel_rfl) n
theorem lockstepref06_Of_l18_m (n : Nat) : CutMeets Try.prog (.loop (codeAt [1, 1, 1, 1, 0, 1, 0, 0, 1, 0, 0, 1, 1, 1, 1, 0, 1, 0, 0] (bodyOf Try.f8))) 96 (lockstepref06_Of_l18_k n) :=
 loop_ok lockstepref06_Of_l18_h lockstepref06_Of_l18_F (E := lockstepref06_Of_e) (l := fun n => []) mixed (fun _ => rfl) lockstepref06_Of_ok (by kernel_rfl) (fun _ => by kernel_rfl) (fun n => trivial) (fun _ _ => rfl) (fun n x y => by kernel_rfl) n
theorem lockstepref06_Of_l6_m (n : Nat) : CutMeets Try.prog (.loop (codeAt [1, 1, 1, 1, 0, 1, 0, 0] (bodyOf Try.f8))) 96 (lockstepref06_Of_l6_k n) :=
 loop_ok lockstepref06_Of_l6_h lockstepref06_Of_l6_F (E := lockstepref06_Of_e) (l := fun n => [(Code.loop (codeAt [1, 1, 1, 1, 0, 1, 0, 0, 1, 0, 0, 1, 1, 1, 0, 1, 0, 0] (bodyOf Try.f8)), lockstepref06_Of_l13_k n), (Code.loop (codeAt [1, 1, 1, 1, 0, 1, 0, 0, 1, 0, 0, 1, 1, 1, 1, 0, 1, 0, 0] (bodyOf Try.f8)), lockstepref06_Of_l18_k n)]) mixed (fun _ => rfl) lockstepref06_Of_ok (by kernel_rfl) (fun _ => by kernel_rfl) (fun n => ⟨lockstepref06_Of_l13_m n, lockstepref06_Of_l18_m n, trivial⟩) (fun _ _ => rfl) (fun n x y => by kernel_rfl) n
theorem lockstepref06_Of_m (n : Nat) : Meets Try.prog 8 (lockstepref06_Of_c n) :=
 con_meets (l := [(Code.loop (codeAt [1, 1, 1, 1, 0, 1, 0, 0] (bodyOf Try.f8)), lockstepref06_Of_l6_k n)]) mixed Try.func8 (by kernel_rfl) (lockstepref06_Of_ok n) (by kernel_rfl) (by kernel_rfl) (by kernel_rfl) ⟨lockstepref06_Of_l6_m n, trivial⟩ (fun x => by kernel_rfl)
/-! 21 lockstep/lockstepref02.Ints -/
noncomputable def lockstepref02_Ints_l4 : Nat → (List Int) → (List Int) → Int → Option (Sum Unit Bool)
 | 0, _, _, _ => none
 | n + 1, t0, t1, t5 =>
  if (decide (t5 < (t0.length : Int)) = true) then
   if ((0 ≤ t5) ∧ (t5 < (t0.length : Int))) then
    if ((0 ≤ t5) ∧ (t5 < (t1.length : Int))) then
     if (((t0.getD t5.toNat 0) != (t1.getD t5.toNat 0)) = true) then
      some (.inr false)
     else (lockstepref02_Ints_l4 n t0 t1 (IntKind.wrap .i64 (t5 + 1)))
    else none
   else none
  else some (.inl ())
noncomputable def lockstepref02_Ints (n : Nat) (t0 : (List Int)) (t1 : (List Int)) : Option Bool :=
 if (((t0.length : Int) != (t1.length : Int)) = true) then
  some false
 else (lockstepref02_Ints_l4 n t0 t1 0).bind fun r0 =>
  match r0 with
   | .inl r1 =>
    some true
   | .inr r1 =>
    some r1
noncomputable def lockstepref02_Ints_l4_h : Sh := ⟨[(0, (.val (.list (.int .i64)))), (1, (.val (.list (.int .i64))))], [(5, (.val (.int .i64)))], [4, 5, 11, 12, 13, 14, 15, 16, 17, 18, 19, 20, 21, 22, 23, 24, 25], [⟨.exit 0, []⟩, ⟨.ret, [(4, (.val .bool))]⟩]⟩
noncomputable def lockstepref02_Ints_l4_F (n : Nat) : lockstepref02_Ints_l4_h.Fn := fun x y => lockstepref02_Ints_l4 n x.1 x.2.1 y.1
noncomputable def lockstepref02_Ints_l4_k (n : Nat) : Cut := lockstepref02_Ints_l4_h.cut (lockstepref02_Ints_l4_F n)
noncomputable def lockstepref02_Ints_e (n : Nat) : Env := mkEnv T_ A_ N_ [] [((0, 4, 5), lockstepref02_Ints_l4_k n)] 26
noncomputable def lockstepref02_Ints_c (n : Nat) : Con := mkCon [(.val (.list (.int .i64))), (.val (.list (.int .i64)))] [(.val .bool)] (fun x => lockstepref02_Ints n x.1 x.2.1)
theorem lockstepref02_Ints_ok (n : Nat) : EnvOK Try.prog (lockstepref02_Ints_e n) := mkEnv_ok tabs trivial
theorem lockstepref02_Ints_l4_m (n : Nat) : CutMeets Try.prog (.loop (codeAt [1, 1, 0, 1, 0, 0] (bodyOf Try.f21))) 26 (lockstepref02_Ints_l4_k n) :=
 loop_ok lockstepref02_Ints_l4_h lockstepref02_Ints_l4_F (E := lockstepref02_Ints_e) (l := fun n => []) mixed (fun _ => rfl) lockstepref02_Ints_ok (by kernel_rfl) (fun _ => by kernel_rfl) (fun n => trivial) (fun _ _ => rfl) (fun n x y => by kernel_rfl) n
theorem lockstepref02_Ints_m (n : Nat) : Meets Try.prog 21 (lockstepref02_Ints_c n) :=
 con_meets (l := [(Code.loop (codeAt [1, 1, 0, 1, 0, 0] (bodyOf Try.f21)), lockstepref02_Ints_l4_k n)]) mixed Try.func21 (by kernel_rfl) (lockstepref02_Ints_ok n) (by kernel_rfl) (by kernel_rfl) (by kernel_rfl) ⟨lockstepref02_Ints_l4_m n, trivial⟩ (fun x => by kernel_rfl)
/-! 9 lockstep/lockstepref06.Same -/
noncomputable def lockstepref06_Same_l4 : Nat → L_api_Graph → L_api_Graph → Int → Option (Sum (L_api_Graph × L_api_Graph) (Bool × (L_api_Graph × L_api_Graph)))
 | 0, _, _, _ => none
 | n + 1, t2, t3, t5 =>
  if (decide (t5 < (t2.1.length : Int)) = true) then
   if ((0 ≤ t5) ∧ (t5 < (t2.1.length : Int))) then
    if ((0 ≤ t5) ∧ (t5 < (t3.1.length : Int))) then
     (lockstepref02_Ints n (t2.1.getD t5.toNat []) (t3.1.getD t5.toNat [])).bind fun r0 =>
      if ((!r0) = true) then
       some (.inr (false, t2, t3))
      else (lockstepref06_Same_l4 n t2 t3 (IntKind.wrap .i64 (t5 + 1)))
    else none
   else none
  else some (.inl (t2, t3))
noncomputable def lockstepref06_Same_l9 : Nat → L_api_Graph → L_api_Graph → Int → Option (Sum (L_api_Graph × L_api_Graph) (Bool × (L_api_Graph × L_api_Graph)))
 | 0, _, _, _ => none
 | n + 1, t2, t3, t6 =>
  if (decide (t6 < (t2.2.1.length : Int)) = true) then
   if ((0 ≤ t6) ∧ (t6 < (t2.2.1.length : Int))) then
    if ((0 ≤ t6) ∧ (t6 < (t3.2.1.length : Int))) then
     (lockstepref02_Ints n (t2.2.1.getD t6.toNat []) (t3.2.1.getD t6.toNat [])).bind fun r0 =>
      if ((!r0) = true) then
       some (.inr (false, t2, t3))
      else (lockstepref06_Same_l9 n t2 t3 (IntKind.wrap .i64 (t6 + 1)))
    else none
   else none
  else some (.inl (t2, t3))
noncomputable def lockstepref06_Same (n : Nat) (t0 : L_api_Graph) (t1 : L_api_Graph) : Option Bool :=
 if (((t0.1.length : Int) != (t1.1.length : Int)) = false) then
  if (((t0.2.1.length : Int) != (t1.2.1.length : Int)) = true) then
   some false
  else (lockstepref06_Same_l4 n t0 t1 0).bind fun r0 =>
   match r0 with
    | .inl r1 =>
     (lockstepref06_Same_l9 n r1.1 r1.2 0).bind fun r2 =>
      match r2 with
       | .inl r3 =>
        some true
       | .inr r3 =>
        some r3.1
    | .inr r1 =>
     some r1.1
 else some false
noncomputable def lockstepref06_Same_l4_h : Sh := ⟨[(2, (.box (.val Y_api_Graph))), (3, (.box (.val Y_api_Graph)))], [(5, (.val (.int .i64)))], [4, 5, 23, 24, 25, 26, 27, 28, 29, 30, 31, 32, 33, 34, 35, 36, 37, 38, 39, 40, 41], [⟨.exit 0, []⟩, ⟨.ret, [(4, (.val .bool))]⟩]⟩
noncomputable def lockstepref06_Same_l4_F (n : Nat) : lockstepref06_Same_l4_h.Fn := fun x y => lockstepref06_Same_l4 n x.1 x.2.1 y.1
noncomputable def lockstepref06_Same_l4_k (n : Nat) : Cut := lockstepref06_Same_l4_h.cut (lockstepref06_Same_l4_F n)
noncomputable def lockstepref06_Same_l9_h : Sh := ⟨[(2, (.box (.val Y_api_Graph))), (3, (.box (.val Y_api_Graph)))], [(6, (.val (.int .i64)))], [4, 6, 42, 43, 44, 45, 46, 47, 48, 49, 50, 51, 52, 53, 54, 55, 56, 57, 58, 59, 60], [⟨.exit 2, []⟩, ⟨.ret, [(4, (.val .bool))]⟩]⟩
noncomputable def lockstepref06_Same_l9_F (n : Nat) : lockstepref06_Same_l9_h.Fn := fun x y => lockstepref06_Same_l9 n x.1 x.2.1 y.1
noncomputable def lockstepref06_Same_l9_k (n : Nat) : Cut := lockstepref06_Same_l9_h.cut (lockstepref06_Same_l9_F n)
noncomputable def lockstepref06_Same_e (n : Nat) : Env := mkEnv T_ A_ N_ [(21, lockstepref02_Ints_c n)] [((0, 4, 5), lockstepref06_Same_l4_k n), ((0, 9, 10), lockstepref06_Same_l9_k n)] 61
noncomputable def lockstepref06_Same_c (n : Nat) : Con := mkCon [(.val Y_api_Graph), (.val Y_api_Graph)] [(.val .bool)] (fun x => lockstepref06_Same n x.1 x.2.1)
theorem lockstepref06_Same_ok (n : Nat) : EnvOK Try.prog (lockstepref06_Same_e n) := mkEnv_ok tabs ⟨⟨lockstepref02_Ints_m n, fok21⟩, trivial⟩
theorem lockstepref06_Same_l4_m (n : Nat) : CutMeets Try.prog (.loop (codeAt [1, 1, 0, 1, 0, 0] (bodyOf Try.f9))) 61 (lockstepref06_Same_l4_k n) :=
 loop_ok lockstepref06_Same_l4_h lockstepref06_Same_l4_F (E := lockstepref06_Same_e) (l := fun n => []) mixed (fun _ => rfl) lockstepref06_Same_ok (by kernel_rfl) (fun _ => by kernel_rfl) (fun n => trivial) (fun _ _ => rfl) (fun n x y => by kernel_rfl) n
theorem lockstepref06_Same_l9_m (n : Nat) : CutMeets Try.prog (.loop (codeAt [1, 1, 1, 0, 1, 0, 0] (bodyOf Try.f9))) 61 (lockstepref06_Same_l9_k n) :=
 loop_ok lockstepref06_Same_l9_h lockstepref06_Same_l9_F (E := lockstepref06_Same_e) (l := fun n => []) mixed (fun _ => rfl) lockstepref06_Same_ok (by kernel_rfl) (fun _ => by kernel_rfl) (fun n => trivial) (fun _ _ => rfl) (fun n x y => by kernel_rfl) n
theorem lockstepref06_Same_m (n : Nat) : Meets Try.prog 9 (lockstepref06_Same_c n) :=
 con_meets (l := [(Code.loop (codeAt [1, 1, 0, 1, 0, 0] (bodyOf Try.f9)), lockstepref06_Same_l4_k n), (Code.loop (codeAt [1, 1, 1, 0, 1, 0, 0] (bodyOf Try.f9)), lockstepref06_Same_l9_k n)]) mixed Try.func9 (by kernel_rfl) (lockstepref06_Same_ok n) (by kernel_rfl) (by kernel_rfl) (by kernel_rfl) ⟨lockstepref06_Same_l4_m n, lockstepref06_Same_l9_m n, trivial⟩ (fun x => by kernel_rfl)
/-! 3 lockstep/locksteplaw06.GraphShapes -/
noncomputable def locksteplaw06_GraphShapes (n : Nat) (t0 : L_api_Func) : Option Bool :=
 (locksteplaw06_awake n).bind fun r0 =>
  if ((!r0) = true) then
   some false
  else (lockstepref04_Small n t0).bind fun r1 =>
   if ((!r1) = true) then
    some true
   else (graph_Of n t0).bind fun r2 =>
    (lockstepref06_Of n t0).bind fun r3 =>
     (lockstepref06_Same n r2.1 r3.1).bind fun r4 =>
      if (r4 = true) then
       if ((r2.2 == r3.2) = true) then
        if ((r2.2 != 0) = false) then
         (graph_May n r2.1).bind fun r5 =>
          some r5
        else some true
       else some false
      else some false
noncomputable def locksteplaw06_GraphShapes_e (n : Nat) : Env := mkEnv T_ A_ N_ [(10, graph_May_c n), (5, locksteplaw06_awake_c n), (6, lockstepref04_Small_c n), (7, graph_Of_c n), (8, lockstepref06_Of_c n), (9, lockstepref06_Same_c n)] [] 38
noncomputable def locksteplaw06_GraphShapes_c (n : Nat) : Con := mkCon [(.val Y_api_Func)] [(.val .bool)] (fun x => locksteplaw06_GraphShapes n x.1)
theorem locksteplaw06_GraphShapes_ok (n : Nat) : EnvOK Try.prog (locksteplaw06_GraphShapes_e n) := mkEnv_ok tabs ⟨⟨graph_May_m n, fok10⟩, ⟨locksteplaw06_awake_m n, fok5⟩, ⟨lockstepref04_Small_m n, fok6⟩, ⟨graph_Of_m n, fok7⟩, ⟨lockstepref06_Of_m n, fok8⟩, ⟨lockstepref06_Same_m n, fok9⟩, trivial⟩
theorem locksteplaw06_GraphShapes_m (n : Nat) : Meets Try.prog 3 (locksteplaw06_GraphShapes_c n) :=
 con_meets (l := []) mixed Try.func3 (by kernel_rfl) (locksteplaw06_GraphShapes_ok n) (by kernel_rfl) (by kernel_rfl) (by kernel_rfl) trivial (fun x => by kernel_rfl)
/-! 4 lockstep/locksteplaw06.GraphEnds -/
noncomputable def locksteplaw06_GraphEnds_l8 : Nat → (List Int) → (List (Int × (Int × Unit))) → Int → L_api_Func → Int → Option L_api_Func
 | 0, _, _, _, _, _ => none
 | n + 1, t0, t1, t5, t6, t7 =>
  if (decide (t7 < t5) = true) then
   if ((0 ≤ t7) ∧ (t7 < (t0.length : Int))) then
    if ((t1.length : Int) ≠ 0) then
     if ((0 ≤ (Int.tmod t7 (t1.length : Int))) ∧ ((Int.tmod t7 (t1.length : Int)) < (t1.length : Int))) then
      if ((max 1 (IntKind.wrap .i64 (t5 - 1))) ≠ 0) then
       if ((t1.length : Int) ≠ 0) then
        if ((0 ≤ (Int.tmod t7 (t1.length : Int))) ∧ ((Int.tmod t7 (t1.length : Int)) < (t1.length : Int))) then
         if ((max 1 (IntKind.wrap .i64 (t5 - 1))) ≠ 0) then
          if ((t5 == 1) = true) then
           if ((t6.2.2.1 ++ [([], [(t7, 0, 0, 0, [], 0, ())], (0, 0, [], ()), ())]).length ≤ Ev.most) then
            (locksteplaw06_GraphEnds_l8 n t0 t1 t5 (t6.1, t6.2.1, (t6.2.2.1 ++ [([], [(t7, 0, 0, 0, [], 0, ())], (0, 0, [], ()), ())]), ()) (IntKind.wrap .i64 (t7 + 1)))
           else none
          else if (((Int.tmod (IntKind.wrap .i64 (t0.getD t7.toNat 0)) 4) == 1) = true) then
           if (((Int.tmod (IntKind.wrap .i64 (t0.getD t7.toNat 0)) 4) == 2) = true) then
            if ((t6.2.2.1 ++ [([], [(t7, 0, 0, 0, [], 0, ())], ((Int.tmod (IntKind.wrap .i64 (t0.getD t7.toNat 0)) 4), 0, [(IntKind.wrap .i64 (1 + (Int.tmod (IntKind.wrap .i64 ((t1.getD ((Int.tmod t7 (t1.length : Int)).toNat) (0, 0, ())).1)) (max 1 (IntKind.wrap .i64 (t5 - 1)))))), (IntKind.wrap .i64 (1 + (Int.tmod (IntKind.wrap .i64 (((t1.getD ((Int.tmod t7 (t1.length : Int)).toNat) (0, 0, ())).2).1)) (max 1 (IntKind.wrap .i64 (t5 - 1))))))], ()), ())]).length ≤ Ev.most) then
             (locksteplaw06_GraphEnds_l8 n t0 t1 t5 (t6.1, t6.2.1, (t6.2.2.1 ++ [([], [(t7, 0, 0, 0, [], 0, ())], ((Int.tmod (IntKind.wrap .i64 (t0.getD t7.toNat 0)) 4), 0, [(IntKind.wrap .i64 (1 + (Int.tmod (IntKind.wrap .i64 ((t1.getD ((Int.tmod t7 (t1.length : Int)).toNat) (0, 0, ())).1)) (max 1 (IntKind.wrap .i64 (t5 - 1)))))), (IntKind.wrap .i64 (1 + (Int.tmod (IntKind.wrap .i64 (((t1.getD ((Int.tmod t7 (t1.length : Int)).toNat) (0, 0, ())).2).1)) (max 1 (IntKind.wrap .i64 (t5 - 1))))))], ()), ())]), ()) (IntKind.wrap .i64 (t7 + 1)))
            else none
           else if ((t6.2.2.1 ++ [([], [(t7, 0, 0, 0, [], 0, ())], ((Int.tmod (IntKind.wrap .i64 (t0.getD t7.toNat 0)) 4), 0, [(IntKind.wrap .i64 (1 + (Int.tmod (IntKind.wrap .i64 ((t1.getD ((Int.tmod t7 (t1.length : Int)).toNat) (0, 0, ())).1)) (max 1 (IntKind.wrap .i64 (t5 - 1))))))], ()), ())]).length ≤ Ev.most) then
            (locksteplaw06_GraphEnds_l8 n t0 t1 t5 (t6.1, t6.2.1, (t6.2.2.1 ++ [([], [(t7, 0, 0, 0, [], 0, ())], ((Int.tmod (IntKind.wrap .i64 (t0.getD t7.toNat 0)) 4), 0, [(IntKind.wrap .i64 (1 + (Int.tmod (IntKind.wrap .i64 ((t1.getD ((Int.tmod t7 (t1.length : Int)).toNat) (0, 0, ())).1)) (max 1 (IntKind.wrap .i64 (t5 - 1))))))], ()), ())]), ()) (IntKind.wrap .i64 (t7 + 1)))
           else none
          else if (((Int.tmod (IntKind.wrap .i64 (t0.getD t7.toNat 0)) 4) == 2) = true) then
           if ((t6.2.2.1 ++ [([], [(t7, 0, 0, 0, [], 0, ())], ((Int.tmod (IntKind.wrap .i64 (t0.getD t7.toNat 0)) 4), 0, [(IntKind.wrap .i64 (1 + (Int.tmod (IntKind.wrap .i64 ((t1.getD ((Int.tmod t7 (t1.length : Int)).toNat) (0, 0, ())).1)) (max 1 (IntKind.wrap .i64 (t5 - 1)))))), (IntKind.wrap .i64 (1 + (Int.tmod (IntKind.wrap .i64 (((t1.getD ((Int.tmod t7 (t1.length : Int)).toNat) (0, 0, ())).2).1)) (max 1 (IntKind.wrap .i64 (t5 - 1))))))], ()), ())]).length ≤ Ev.most) then
            (locksteplaw06_GraphEnds_l8 n t0 t1 t5 (t6.1, t6.2.1, (t6.2.2.1 ++ [([], [(t7, 0, 0, 0, [], 0, ())], ((Int.tmod (IntKind.wrap .i64 (t0.getD t7.toNat 0)) 4), 0, [(IntKind.wrap .i64 (1 + (Int.tmod (IntKind.wrap .i64 ((t1.getD ((Int.tmod t7 (t1.length : Int)).toNat) (0, 0, ())).1)) (max 1 (IntKind.wrap .i64 (t5 - 1)))))), (IntKind.wrap .i64 (1 + (Int.tmod (IntKind.wrap .i64 (((t1.getD ((Int.tmod t7 (t1.length : Int)).toNat) (0, 0, ())).2).1)) (max 1 (IntKind.wrap .i64 (t5 - 1))))))], ()), ())]), ()) (IntKind.wrap .i64 (t7 + 1)))
           else none
          else if ((t6.2.2.1 ++ [([], [(t7, 0, 0, 0, [], 0, ())], ((Int.tmod (IntKind.wrap .i64 (t0.getD t7.toNat 0)) 4), 0, [], ()), ())]).length ≤ Ev.most) then
           (locksteplaw06_GraphEnds_l8 n t0 t1 t5 (t6.1, t6.2.1, (t6.2.2.1 ++ [([], [(t7, 0, 0, 0, [], 0, ())], ((Int.tmod (IntKind.wrap .i64 (t0.getD t7.toNat 0)) 4), 0, [], ()), ())]), ()) (IntKind.wrap .i64 (t7 + 1)))
          else none
         else none
        else none
       else none
      else none
     else none
    else none
   else none
  else some t6
noncomputable def locksteplaw06_GraphEnds_l27 : Nat → Int → L_api_Func → L_api_Graph → Int → Int → Option (Sum (L_api_Func × L_api_Graph) (Bool × (L_api_Func × L_api_Graph)))
 | 0, _, _, _, _, _ => none
 | n + 1, t5, t6, t11, t13, t14 =>
  if (decide (t14 < t5) = true) then
   if ((0 ≤ t13) ∧ (t13 < (t6.2.2.1.length : Int))) then
    (lockstepref06_Has n (((((((t6.2.2.1.getD t13.toNat ([], [], (0, 0, [], ()), ())).2).2).1).2).2).1) t14).bind fun r0 =>
     if ((0 ≤ t13) ∧ (t13 < (t11.1.length : Int))) then
      (lockstepref06_Has n (t11.1.getD t13.toNat []) t14).bind fun r1 =>
       if ((r1 != r0) = false) then
        if ((0 ≤ t14) ∧ (t14 < (t11.2.1.length : Int))) then
         (lockstepref06_Has n (t11.2.1.getD t14.toNat []) t13).bind fun r2 =>
          if ((r2 != r0) = true) then
           some (.inr (false, t6, t11))
          else (locksteplaw06_GraphEnds_l27 n t5 t6 t11 t13 (IntKind.wrap .i64 (t14 + 1)))
        else none
       else some (.inr (false, t6, t11))
     else none
   else none
  else some (.inl (t6, t11))
noncomputable def locksteplaw06_GraphEnds_l24 : Nat → Int → L_api_Func → L_api_Graph → Int → Option (Sum (L_api_Func × L_api_Graph) (Bool × (L_api_Func × L_api_Graph)))
 | 0, _, _, _, _ => none
 | n + 1, t5, t6, t11, t13 =>
  if (decide (t13 < t5) = true) then
   (locksteplaw06_GraphEnds_l27 n t5 t6 t11 t13 0).bind fun r0 =>
    match r0 with
     | .inl r1 =>
      (locksteplaw06_GraphEnds_l24 n t5 r1.1 r1.2 (IntKind.wrap .i64 (t13 + 1)))
     | .inr r1 =>
      some (.inr r1)
  else some (.inl (t6, t11))
noncomputable def locksteplaw06_GraphEnds (n : Nat) (t0 : (List Int)) (t1 : (List (Int × (Int × Unit)))) : Option Bool :=
 (locksteplaw06_awake n).bind fun r0 =>
  if ((!r0) = true) then
   some false
  else if (decide ((t0.length : Int) < 1) = false) then
   if (decide ((t0.length : Int) > 64) = false) then
    if (((t1.length : Int) == 0) = true) then
     some true
    else (locksteplaw06_GraphEnds_l8 n t0 t1 (t0.length : Int) ([], 0, [], ()) 0).bind fun r1 =>
     (graph_Of n r1).bind fun r2 =>
      if ((r2.2 != 0) = false) then
       if (((0 : Int) ≤ 0) ∧ (0 < (r2.1.2.1.length : Int))) then
        if ((((r2.1.2.1.getD 0 []).length : Int) != 0) = true) then
         some false
        else (locksteplaw06_GraphEnds_l24 n (t0.length : Int) r1 r2.1 0).bind fun r3 =>
         match r3 with
          | .inl r4 =>
           some true
          | .inr r4 =>
           some r4.1
       else none
      else some false
   else some true
  else some true
noncomputable def locksteplaw06_GraphEnds_l8_h : Sh := ⟨[(0, (.val (.list (.int .u8)))), (1, (.val (.list (.pair (.int .u8) (.pair (.int .u8) .unit))))), (5, (.val (.int .i64))), (6, (.box (.pair (.val (.list (.int .i64))) (.pair (.val (.int .i64)) (.pair (.own Y_api_Block) .unit)))))], [(7, (.val (.int .i64)))], [7, 8, 9, 10, 31, 32, 33, 34, 35, 36, 37, 38, 39, 40, 41, 42, 43, 44, 45, 46, 47, 48, 49, 50, 51, 52, 53, 54, 55, 56, 57, 58, 59, 60, 61, 62, 63, 64, 65, 66, 67, 68, 69, 70, 71, 72, 73, 74, 75, 76, 77, 78, 79, 80, 81, 82, 83, 84, 85, 86, 87, 88, 89, 90, 91, 92, 93, 94, 95, 96], [⟨.exit 0, []⟩]⟩
noncomputable def locksteplaw06_GraphEnds_l8_F (n : Nat) : locksteplaw06_GraphEnds_l8_h.Fn := fun x y => locksteplaw06_GraphEnds_l8 n x.1 x.2.1 x.2.2.1 x.2.2.2.1 y.1
noncomputable def locksteplaw06_GraphEnds_l8_k (n : Nat) : Cut := locksteplaw06_GraphEnds_l8_h.cut (locksteplaw06_GraphEnds_l8_F n)
noncomputable def locksteplaw06_GraphEnds_l27_h : Sh := ⟨[(5, (.val (.int .i64))), (6, (.box (.val Y_api_Func))), (11, (.box (.val Y_api_Graph))), (13, (.val (.int .i64)))], [(14, (.val (.int .i64)))], [4, 14, 15, 117, 118, 119, 120, 121, 122, 123, 124, 125, 126, 127, 128, 129, 130, 131, 132, 133, 134, 135, 136, 137, 138, 139, 140, 141, 142, 143, 144, 145, 146, 147, 148, 149, 150], [⟨.exit 4, []⟩, ⟨.ret, [(4, (.val .bool))]⟩]⟩
noncomputable def locksteplaw06_GraphEnds_l27_F (n : Nat) : locksteplaw06_GraphEnds_l27_h.Fn := fun x y => locksteplaw06_GraphEnds_l27 n x.1 x.2.1 x.2.2.1 x.2.2.2.1 y.1
noncomputable def locksteplaw06_GraphEnds_l27_k (n : Nat) : Cut := locksteplaw06_GraphEnds_l27_h.cut (locksteplaw06_GraphEnds_l27_F n)
noncomputable def locksteplaw06_GraphEnds_l24_h : Sh := ⟨[(5, (.val (.int .i64))), (6, (.box (.val Y_api_Func))), (11, (.box (.val Y_api_Graph)))], [(13, (.val (.int .i64)))], [4, 13, 14, 15, 112, 113, 114, 115, 116, 117, 118, 119, 120, 121, 122, 123, 124, 125, 126, 127, 128, 129, 130, 131, 132, 133, 134, 135, 136, 137, 138, 139, 140, 141, 142, 143, 144, 145, 146, 147, 148, 149, 150], [⟨.exit 2, []⟩, ⟨.ret, [(4, (.val .bool))]⟩]⟩
noncomputable def locksteplaw06_GraphEnds_l24_F (n : Nat) : locksteplaw06_GraphEnds_l24_h.Fn := fun x y => locksteplaw06_GraphEnds_l24 n x.1 x.2.1 x.2.2.1 y.1
noncomputable def locksteplaw06_GraphEnds_l24_k (n : Nat) : Cut := locksteplaw06_GraphEnds_l24_h.cut (locksteplaw06_GraphEnds_l24_F n)
noncomputable def locksteplaw06_GraphEnds_e (n : Nat) : Env := mkEnv T_ A_ N_ [(5, locksteplaw06_awake_c n), (7, graph_Of_c n), (11, lockstepref06_Has_c n)] [((0, 8, 9), locksteplaw06_GraphEnds_l8_k n), ((0, 27, 28), locksteplaw06_GraphEnds_l27_k n), ((0, 24, 25), locksteplaw06_GraphEnds_l24_k n)] 151
noncomputable def locksteplaw06_GraphEnds_c (n : Nat) : Con := mkCon [(.val (.list (.int .u8))), (.val (.list (.pair (.int .u8) (.pair (.int .u8) .unit))))] [(.val .bool)] (fun x => locksteplaw06_GraphEnds n x.1 x.2.1)
theorem locksteplaw06_GraphEnds_ok (n : Nat) : EnvOK Try.prog (locksteplaw06_GraphEnds_e n) := mkEnv_ok tabs ⟨⟨locksteplaw06_awake_m n, fok5⟩, ⟨graph_Of_m n, fok7⟩, ⟨lockstepref06_Has_m n, fok11⟩, trivial⟩
theorem locksteplaw06_GraphEnds_l8_m (n : Nat) : CutMeets Try.prog (.loop (codeAt [1, 1, 1, 1, 1, 0, 1, 0, 0] (bodyOf Try.f4))) 151 (locksteplaw06_GraphEnds_l8_k n) :=
 loop_ok locksteplaw06_GraphEnds_l8_h locksteplaw06_GraphEnds_l8_F (E := locksteplaw06_GraphEnds_e) (l := fun n => []) mixed (fun _ => rfl) locksteplaw06_GraphEnds_ok (by kernel_rfl) (fun _ => by kernel_rfl) (fun n => trivial) (fun _ _ => rfl) (fun n x y => by kernel_rfl) n
theorem locksteplaw06_GraphEnds_l27_m (n : Nat) : CutMeets Try.prog (.loop (codeAt [1, 1, 1, 1, 1, 1, 1, 1, 0, 1, 0, 0, 1, 0, 0, 1, 0, 0] (bodyOf Try.f4))) 151 (locksteplaw06_GraphEnds_l27_k n) :=
 loop_ok locksteplaw06_GraphEnds_l27_h locksteplaw06_GraphEnds_l27_F (E := locksteplaw06_GraphEnds_e) (l := fun n => []) mixed (fun _ => rfl) locksteplaw06_GraphEnds_ok (by kernel_rfl) (fun _ => by kernel_rfl) (fun n => trivial) (fun _ _ => rfl) (fun n x y => by kernel_rfl) n
theorem locksteplaw06_GraphEnds_l24_m (n : Nat) : CutMeets Try.prog (.loop (codeAt [1, 1, 1, 1, 1, 1, 1, 1, 0, 1, 0, 0] (bodyOf Try.f4))) 151 (locksteplaw06_GraphEnds_l24_k n) :=
 loop_ok locksteplaw06_GraphEnds_l24_h locksteplaw06_GraphEnds_l24_F (E := locksteplaw06_GraphEnds_e) (l := fun n => [(Code.loop (codeAt [1, 1, 1, 1, 1, 1, 1, 1, 0, 1, 0, 0, 1, 0, 0, 1, 0, 0] (bodyOf Try.f4)), locksteplaw06_GraphEnds_l27_k n)]) mixed (fun _ => rfl) locksteplaw06_GraphEnds_ok (by kernel_rfl) (fun _ => by kernel_rfl) (fun n => ⟨locksteplaw06_GraphEnds_l27_m n, trivial⟩) (fun _ _ => rfl) (fun n x y => by kernel_rfl) n
theorem locksteplaw06_GraphEnds_m (n : Nat) : Meets Try.prog 4 (locksteplaw06_GraphEnds_c n) :=
 con_meets (l := [(Code.loop (codeAt [1, 1, 1, 1, 1, 0, 1, 0, 0] (bodyOf Try.f4)), locksteplaw06_GraphEnds_l8_k n), (Code.loop (codeAt [1, 1, 1, 1, 1, 1, 1, 1, 0, 1, 0, 0] (bodyOf Try.f4)), locksteplaw06_GraphEnds_l24_k n)]) mixed Try.func4 (by kernel_rfl) (locksteplaw06_GraphEnds_ok n) (by kernel_rfl) (by kernel_rfl) (by kernel_rfl) ⟨locksteplaw06_GraphEnds_l8_m n, locksteplaw06_GraphEnds_l24_m n, trivial⟩ (fun x => by kernel_rfl)
end Go.PrS
