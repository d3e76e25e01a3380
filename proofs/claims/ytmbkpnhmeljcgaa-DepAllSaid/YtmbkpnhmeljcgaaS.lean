/- What functions of the program come to, as plain functions, and that they keep these contracts. No conditions beyond each theorem's own. -/
import Derived.Test.YtmbkpnhmeljcgaaE4
import Derived.Test.YtmbkpnhmeljcgaaGiv
import Derived.Test.YtmbkpnhmeljcgaaProg
import Derived.KernelRfl
set_option linter.unusedVariables false
set_option linter.unusedSimpArgs false
noncomputable section
namespace Go.PrS
open Go Go.Ev Go.Proofs
noncomputable abbrev Y_api_Dep : Ty := (.pair (.int .i64) (.pair (.int .i64) (.pair (.int .i64) .unit)))
abbrev L_api_Dep : Type := (Int × (Int × (Int × Unit)))
noncomputable abbrev Y_api_Graph : Ty := (.pair (.list (.list (.int .i64))) (.pair (.list (.list (.int .i64))) .unit))
abbrev L_api_Graph : Type := ((List (List Int)) × ((List (List Int)) × Unit))
noncomputable def T_ : List (Nat × Ty) := [(31, (.list (.int .i64))), (3, (.int .i64)), (22, (.list (.list (.int .i64)))), (26, Y_api_Graph), (33, (.int .i64)), (58, (.arr 64 .bool)), (4, .bool), (57, (.arr 64 .bool)), (90, (.arr 64 (.int .i64))), (86, (.int .u32)), (88, (.int .u64)), (65, (.int .u64)), (37, Y_api_Dep), (28, (.list Y_api_Dep)), (46, (.list .bool)), (45, (.list (.list .bool)))]
noncomputable def A_ : List Nat := []
noncomputable def N_ : List Nat := [55, 30, 44, 89]
theorem tabs : (∀ t ty, lookT T_ t = some ty → TyOK Try.prog (memN t A_) t ty) ∧ ∀ t, memN t N_ = true → FnTyOK Try.prog t := tab_ok (by kernel_rfl) (by kernel_rfl)
theorem mixed : Try.prog.follows .mixedOrders = true := by kernel_rfl
theorem fok30 : FnOK Try.prog 30 := ⟨Try.f30, Try.func30, by kernel_rfl, by kernel_rfl⟩
theorem fok29 : FnOK Try.prog 29 := ⟨Try.f29, Try.func29, by kernel_rfl, by kernel_rfl⟩
theorem fok51 : FnOK Try.prog 51 := ⟨Try.f51, Try.func51, by kernel_rfl, by kernel_rfl⟩
theorem fok28 : FnOK Try.prog 28 := ⟨Try.f28, Try.func28, by kernel_rfl, by kernel_rfl⟩
theorem fok31 : FnOK Try.prog 31 := ⟨Try.f31, Try.func31, by kernel_rfl, by kernel_rfl⟩
theorem fok32 : FnOK Try.prog 32 := ⟨Try.f32, Try.func32, by kernel_rfl, by kernel_rfl⟩
theorem fok12 : FnOK Try.prog 12 := ⟨Try.f12, Try.func12, by kernel_rfl, by kernel_rfl⟩
theorem fok53 : FnOK Try.prog 53 := ⟨Try.f53, Try.func53, by kernel_rfl, by kernel_rfl⟩
theorem fok52 : FnOK Try.prog 52 := ⟨Try.f52, Try.func52, by kernel_rfl, by kernel_rfl⟩
theorem fok33 : FnOK Try.prog 33 := ⟨Try.f33, Try.func33, by kernel_rfl, by kernel_rfl⟩
theorem fok34 : FnOK Try.prog 34 := ⟨Try.f34, Try.func34, by kernel_rfl, by kernel_rfl⟩
theorem fok35 : FnOK Try.prog 35 := ⟨Try.f35, Try.func35, by kernel_rfl, by kernel_rfl⟩
theorem fok36 : FnOK Try.prog 36 := ⟨Try.f36, Try.func36, by kernel_rfl, by kernel_rfl⟩
theorem fok14 : FnOK Try.prog 14 := ⟨Try.f14, Try.func14, by kernel_rfl, by kernel_rfl⟩
theorem fok37 : FnOK Try.prog 37 := ⟨Try.f37, Try.func37, by kernel_rfl, by kernel_rfl⟩
theorem fok65 : FnOK Try.prog 65 := ⟨Try.f65, Try.func65, by kernel_rfl, by kernel_rfl⟩
theorem fok44 : FnOK Try.prog 44 := ⟨Try.f44, Try.func44, by kernel_rfl, by kernel_rfl⟩
theorem fok85 : FnOK Try.prog 85 := ⟨Try.f85, Try.func85, by kernel_rfl, by kernel_rfl⟩
theorem fok86 : FnOK Try.prog 86 := ⟨Try.f86, Try.func86, by kernel_rfl, by kernel_rfl⟩
theorem fok66 : FnOK Try.prog 66 := ⟨Try.f66, Try.func66, by kernel_rfl, by kernel_rfl⟩
theorem fok45 : FnOK Try.prog 45 := ⟨Try.f45, Try.func45, by kernel_rfl, by kernel_rfl⟩
theorem fok46 : FnOK Try.prog 46 := ⟨Try.f46, Try.func46, by kernel_rfl, by kernel_rfl⟩
theorem fok22 : FnOK Try.prog 22 := ⟨Try.f22, Try.func22, by kernel_rfl, by kernel_rfl⟩
theorem fok15 : FnOK Try.prog 15 := ⟨Try.f15, Try.func15, by kernel_rfl, by kernel_rfl⟩
theorem fok16 : FnOK Try.prog 16 := ⟨Try.f16, Try.func16, by kernel_rfl, by kernel_rfl⟩
theorem fok64 : FnOK Try.prog 64 := ⟨Try.f64, Try.func64, by kernel_rfl, by kernel_rfl⟩
theorem fok41 : FnOK Try.prog 41 := ⟨Try.f41, Try.func41, by kernel_rfl, by kernel_rfl⟩
theorem fok40 : FnOK Try.prog 40 := ⟨Try.f40, Try.func40, by kernel_rfl, by kernel_rfl⟩
theorem fok18 : FnOK Try.prog 18 := ⟨Try.f18, Try.func18, by kernel_rfl, by kernel_rfl⟩
theorem fok17 : FnOK Try.prog 17 := ⟨Try.f17, Try.func17, by kernel_rfl, by kernel_rfl⟩
theorem fok7 : FnOK Try.prog 7 := ⟨Try.f7, Try.func7, by kernel_rfl, by kernel_rfl⟩
theorem fok70 : FnOK Try.prog 70 := ⟨Try.f70, Try.func70, by kernel_rfl, by kernel_rfl⟩
theorem fok67 : FnOK Try.prog 67 := ⟨Try.f67, Try.func67, by kernel_rfl, by kernel_rfl⟩
theorem fok69 : FnOK Try.prog 69 := ⟨Try.f69, Try.func69, by kernel_rfl, by kernel_rfl⟩
theorem fok87 : FnOK Try.prog 87 := ⟨Try.f87, Try.func87, by kernel_rfl, by kernel_rfl⟩
theorem fok68 : FnOK Try.prog 68 := ⟨Try.f68, Try.func68, by kernel_rfl, by kernel_rfl⟩
theorem fok47 : FnOK Try.prog 47 := ⟨Try.f47, Try.func47, by kernel_rfl, by kernel_rfl⟩
theorem fok48 : FnOK Try.prog 48 := ⟨Try.f48, Try.func48, by kernel_rfl, by kernel_rfl⟩
theorem fok23 : FnOK Try.prog 23 := ⟨Try.f23, Try.func23, by kernel_rfl, by kernel_rfl⟩
theorem fok24 : FnOK Try.prog 24 := ⟨Try.f24, Try.func24, by kernel_rfl, by kernel_rfl⟩
theorem fok25 : FnOK Try.prog 25 := ⟨Try.f25, Try.func25, by kernel_rfl, by kernel_rfl⟩
theorem fok10 : FnOK Try.prog 10 := ⟨Try.f10, Try.func10, by kernel_rfl, by kernel_rfl⟩
theorem fok9 : FnOK Try.prog 9 := ⟨Try.f9, Try.func9, by kernel_rfl, by kernel_rfl⟩
theorem fok13 : FnOK Try.prog 13 := ⟨Try.f13, Try.func13, by kernel_rfl, by kernel_rfl⟩
theorem fok4 : FnOK Try.prog 4 := ⟨Try.f4, Try.func4, by kernel_rfl, by kernel_rfl⟩
theorem fok5 : FnOK Try.prog 5 := ⟨Try.f5, Try.func5, by kernel_rfl, by kernel_rfl⟩
theorem fok21 : FnOK Try.prog 21 := ⟨Try.f21, Try.func21, by kernel_rfl, by kernel_rfl⟩
theorem fok42 : FnOK Try.prog 42 := ⟨Try.f42, Try.func42, by kernel_rfl, by kernel_rfl⟩
theorem fok50 : FnOK Try.prog 50 := ⟨Try.f50, Try.func50, by kernel_rfl, by kernel_rfl⟩
theorem fok26 : FnOK Try.prog 26 := ⟨Try.f26, Try.func26, by kernel_rfl, by kernel_rfl⟩
theorem fok43 : FnOK Try.prog 43 := ⟨Try.f43, Try.func43, by kernel_rfl, by kernel_rfl⟩
theorem fok20 : FnOK Try.prog 20 := ⟨Try.f20, Try.func20, by kernel_rfl, by kernel_rfl⟩
theorem fok19 : FnOK Try.prog 19 := ⟨Try.f19, Try.func19, by kernel_rfl, by kernel_rfl⟩
theorem fok8 : FnOK Try.prog 8 := ⟨Try.f8, Try.func8, by kernel_rfl, by kernel_rfl⟩
theorem fok6 : FnOK Try.prog 6 := ⟨Try.f6, Try.func6, by kernel_rfl, by kernel_rfl⟩
theorem fok27 : FnOK Try.prog 27 := ⟨Try.f27, Try.func27, by kernel_rfl, by kernel_rfl⟩
theorem fok11 : FnOK Try.prog 11 := ⟨Try.f11, Try.func11, by kernel_rfl, by kernel_rfl⟩
theorem fok3 : FnOK Try.prog 3 := ⟨Try.f3, Try.func3, by kernel_rfl, by kernel_rfl⟩
/-! 30 lockstep/graph.rising -/
noncomputable def graph_rising_l3 : Nat → Int → (List Int) → Int → Int → Int → Option (Sum Unit Bool)
 | 0, _, _, _, _, _ => none
 | n + 1, t1, t8, t9, t5, t10 =>
  if (decide (t10 < t9) = true) then
   if ((0 ≤ t10) ∧ (t10 < (t8.length : Int))) then
    if (decide ((t8.getD t10.toNat 0) ≤ t5) = false) then
     if (decide ((t8.getD t10.toNat 0) ≥ t1) = true) then
      some (.inr false)
     else (graph_rising_l3 n t1 t8 t9 (t8.getD t10.toNat 0) (IntKind.wrap .i64 (t10 + 1)))
    else some (.inr false)
   else none
  else some (.inl ())
noncomputable def graph_rising (n : Nat) (t0 : (List Int)) (t1 : Int) : Option Bool :=
 (graph_rising_l3 n t1 t0 (t0.length : Int) (-1) 0).bind fun r0 =>
  match r0 with
   | .inl r1 =>
    some true
   | .inr r1 =>
    some r1
noncomputable def graph_rising_l3_h : Sh := ⟨[(1, (.val (.int .i64))), (8, (.val (.list (.int .i64)))), (9, (.val (.int .i64)))], [(5, (.val (.int .i64))), (10, (.val (.int .i64)))], [4, 5, 7, 10, 11, 12, 13, 14, 15, 16, 17, 18, 19, 20, 21, 22, 23], [⟨.exit 0, []⟩, ⟨.ret, [(4, (.val .bool))]⟩]⟩
noncomputable def graph_rising_l3_F (n : Nat) : graph_rising_l3_h.Fn := fun x y => graph_rising_l3 n x.1 x.2.1 x.2.2.1 y.1 y.2.1
noncomputable def graph_rising_l3_k (n : Nat) : Cut := graph_rising_l3_h.cut (graph_rising_l3_F n)
noncomputable def graph_rising_e (n : Nat) : Env := mkEnv T_ A_ N_ [] [((0, 3, 8), graph_rising_l3_k n)] 24
noncomputable def graph_rising_c (n : Nat) : Con := mkCon [(.val (.list (.int .i64))), (.val (.int .i64))] [(.val .bool)] (fun x => graph_rising n x.1 x.2.1)
theorem graph_rising_ok (n : Nat) : EnvOK Try.prog (graph_rising_e n) := mkEnv_ok tabs trivial
theorem graph_rising_l3_m (n : Nat) : CutMeets Try.prog (.loop (codeAt [1, 1, 0, 1, 0, 0] (bodyOf Try.f30))) 24 (graph_rising_l3_k n) :=
 loop_ok graph_rising_l3_h graph_rising_l3_F (E := graph_rising_e) (l := fun n => []) mixed (fun _ => rfl) graph_rising_ok (by kernel_rfl) (fun _ => by kernel_rfl) (fun n => trivial) (fun _ _ => rfl) (fun n x y => by kernel_rfl) n
theorem graph_rising_m (n : Nat) : Meets Try.prog 30 (graph_rising_c n) :=
 con_meets (l := [(Code.loop (codeAt [1, 1, 0, 1, 0, 0] (bodyOf Try.f30)), graph_rising_l3_k n)]) mixed Try.func30 (by kernel_rfl) (graph_rising_ok n) (by kernel_rfl) (by kernel_rfl) (by kernel_rfl) ⟨graph_rising_l3_m n, trivial⟩ (fun x => by kernel_rfl)
/-! 29 lockstep/graph.Make$1 -/
noncomputable def graph_Make_1 (n : Nat) (t0 : (List Int)) (t1 : Int) : Option (Bool × Int) :=
 (graph_rising n t0 t1).bind fun r0 =>
  some ((!r0), t1)
noncomputable def graph_Make_1_e (n : Nat) : Env := mkEnv T_ A_ N_ [(30, graph_rising_c n)] [] 8
noncomputable def graph_Make_1_c (n : Nat) : Con := mkCon [(.val (.list (.int .i64))), (.box (.val (.int .i64)))] [(.val .bool)] (fun x => graph_Make_1 n x.1 x.2.1)
theorem graph_Make_1_ok (n : Nat) : EnvOK Try.prog (graph_Make_1_e n) := mkEnv_ok tabs ⟨⟨graph_rising_m n, fok30⟩, trivial⟩
theorem graph_Make_1_m (n : Nat) : Meets Try.prog 29 (graph_Make_1_c n) :=
 con_meets (l := []) mixed Try.func29 (by kernel_rfl) (graph_Make_1_ok n) (by kernel_rfl) (by kernel_rfl) (by kernel_rfl) trivial (fun x => by kernel_rfl)
/-! 51 slices.IndexFunc[[][]int,[]int] -/
noncomputable def slices_IndexFunc_int_int_graph_Make_1_l2 : Nat → (List (List Int)) → (Int × Unit) → Int → Int → Option (Sum (Int × Unit) (Int × (Int × Unit)))
 | 0, _, _, _, _ => none
 | n + 1, t0, t1, t7, t8 =>
  if (decide (t8 < t7) = true) then
   if ((0 ≤ t8) ∧ (t8 < (t0.length : Int))) then
    (graph_Make_1 n (t0.getD t8.toNat []) t1.1).bind fun r0 =>
     if (r0.1 = true) then
      some (.inr (t8, r0.2, ()))
     else (slices_IndexFunc_int_int_graph_Make_1_l2 n t0 (r0.2, ()) t7 (IntKind.wrap .i64 (t8 + 1)))
   else none
  else some (.inl t1)
noncomputable def slices_IndexFunc_int_int_graph_Make_1 (n : Nat) (t0 : (List (List Int))) (t1 : (Int × Unit)) : Option (Int × (Int × Unit)) :=
 (slices_IndexFunc_int_int_graph_Make_1_l2 n t0 t1 (t0.length : Int) 0).bind fun r0 =>
  match r0 with
   | .inl r1 =>
    some ((-1), r1)
   | .inr r1 =>
    some r1
noncomputable def slices_IndexFunc_int_int_graph_Make_1_l2_h : Sh := ⟨[(0, (.val (.list (.list (.int .i64))))), (1, (.func 29 0 (.pair (.box (.val (.int .i64))) .unit))), (7, (.val (.int .i64)))], [(8, (.val (.int .i64)))], [4, 5, 8, 9, 10, 11, 12, 13, 14, 15, 16, 17, 18], [⟨.exit 0, []⟩, ⟨.ret, [(4, (.val (.int .i64)))]⟩]⟩
noncomputable def slices_IndexFunc_int_int_graph_Make_1_l2_F (n : Nat) : slices_IndexFunc_int_int_graph_Make_1_l2_h.Fn := fun x y => slices_IndexFunc_int_int_graph_Make_1_l2 n x.1 x.2.1 x.2.2.1 y.1
noncomputable def slices_IndexFunc_int_int_graph_Make_1_l2_k (n : Nat) : Cut := slices_IndexFunc_int_int_graph_Make_1_l2_h.cut (slices_IndexFunc_int_int_graph_Make_1_l2_F n)
noncomputable def slices_IndexFunc_int_int_graph_Make_1_e (n : Nat) : Env := mkEnv T_ A_ N_ [(29, graph_Make_1_c n)] [((0, 2, 6), slices_IndexFunc_int_int_graph_Make_1_l2_k n)] 19
noncomputable def slices_IndexFunc_int_int_graph_Make_1_c (n : Nat) : Con := mkCon [(.val (.list (.list (.int .i64)))), (.func 29 0 (.pair (.box (.val (.int .i64))) .unit))] [(.val (.int .i64))] (fun x => slices_IndexFunc_int_int_graph_Make_1 n x.1 x.2.1)
theorem slices_IndexFunc_int_int_graph_Make_1_ok (n : Nat) : EnvOK Try.prog (slices_IndexFunc_int_int_graph_Make_1_e n) := mkEnv_ok tabs ⟨⟨graph_Make_1_m n, fok29⟩, trivial⟩
theorem slices_IndexFunc_int_int_graph_Make_1_l2_m (n : Nat) : CutMeets Try.prog (.loop (codeAt [1, 0, 1, 0, 0] (bodyOf Try.f51))) 19 (slices_IndexFunc_int_int_graph_Make_1_l2_k n) :=
 loop_ok slices_IndexFunc_int_int_graph_Make_1_l2_h slices_IndexFunc_int_int_graph_Make_1_l2_F (E := slices_IndexFunc_int_int_graph_Make_1_e) (l := fun n => []) mixed (fun _ => rfl) slices_IndexFunc_int_int_graph_Make_1_ok (by kernel_rfl) (fun _ => by kernel_rfl) (fun n => trivial) (fun _ _ => rfl) (fun n x y => by kernel_rfl) n
theorem slices_IndexFunc_int_int_graph_Make_1_m (n : Nat) : Meets Try.prog 51 (slices_IndexFunc_int_int_graph_Make_1_c n) :=
 con_meets (l := [(Code.loop (codeAt [1, 0, 1, 0, 0] (bodyOf Try.f51)), slices_IndexFunc_int_int_graph_Make_1_l2_k n)]) mixed Try.func51 (by kernel_rfl) (slices_IndexFunc_int_int_graph_Make_1_ok n) (by kernel_rfl) (by kernel_rfl) (by kernel_rfl) ⟨slices_IndexFunc_int_int_graph_Make_1_l2_m n, trivial⟩ (fun x => by kernel_rfl)
/-! 28 slices.ContainsFunc[[][]int,[]int] -/
noncomputable def slices_ContainsFunc_int_int_graph_Make_1 (n : Nat) (t0 : (List (List Int))) (t1 : (Int × Unit)) : Option (Bool × (Int × Unit)) :=
 (slices_IndexFunc_int_int_graph_Make_1 n t0 t1).bind fun r0 =>
  some (decide (r0.1 ≥ 0), r0.2)
noncomputable def slices_ContainsFunc_int_int_graph_Make_1_e (n : Nat) : Env := mkEnv T_ A_ N_ [(29, graph_Make_1_c n), (51, slices_IndexFunc_int_int_graph_Make_1_c n)] [] 9
noncomputable def slices_ContainsFunc_int_int_graph_Make_1_c (n : Nat) : Con := mkCon [(.val (.list (.list (.int .i64)))), (.func 29 0 (.pair (.box (.val (.int .i64))) .unit))] [(.val .bool)] (fun x => slices_ContainsFunc_int_int_graph_Make_1 n x.1 x.2.1)
theorem slices_ContainsFunc_int_int_graph_Make_1_ok (n : Nat) : EnvOK Try.prog (slices_ContainsFunc_int_int_graph_Make_1_e n) := mkEnv_ok tabs ⟨⟨graph_Make_1_m n, fok29⟩, ⟨slices_IndexFunc_int_int_graph_Make_1_m n, fok51⟩, trivial⟩
theorem slices_ContainsFunc_int_int_graph_Make_1_m (n : Nat) : Meets Try.prog 28 (slices_ContainsFunc_int_int_graph_Make_1_c n) :=
 con_meets (l := []) mixed Try.func28 (by kernel_rfl) (slices_ContainsFunc_int_int_graph_Make_1_ok n) (by kernel_rfl) (by kernel_rfl) (by kernel_rfl) trivial (fun x => by kernel_rfl)
/- slices_Clone_int_int : Nat → (List Int) → Option (List Int) is given by hand: slices_Clone_int_int, slices_Clone_int_int_c, slices_Clone_int_int_m -/
/-! 32 lockstep/graph.preds -/
noncomputable def graph_preds_l6 : Nat → Int → (List (List Int)) → Int → Int → (List Int) → Int → (List (List Int)) → Int → Option (List (List Int))
 | 0, _, _, _, _, _, _, _, _ => none
 | n + 1, t4, t11, t12, t13, t18, t19, t3, t20 =>
  if (decide (t20 < t19) = true) then
   if ((0 ≤ t20) ∧ (t20 < (t18.length : Int))) then
    if ((0 ≤ (t18.getD t20.toNat 0)) ∧ ((t18.getD t20.toNat 0) < (t3.length : Int))) then
     if (((t3.getD ((t18.getD t20.toNat 0).toNat) []) ++ [t4]).length ≤ Ev.most) then
      if ((0 ≤ (t18.getD t20.toNat 0)) ∧ ((t18.getD t20.toNat 0) < (t3.length : Int))) then
       if ((t18.getD t20.toNat 0).toNat = (t18.getD t20.toNat 0).toNat) then
        (graph_preds_l6 n t4 t11 t12 t13 t18 t19 (t3.set ((t18.getD t20.toNat 0).toNat) ((t3.getD ((t18.getD t20.toNat 0).toNat) []) ++ [t4])) (IntKind.wrap .i64 (t20 + 1)))
       else none
      else none
     else none
    else none
   else none
  else some t3
noncomputable def graph_preds_l3 : Nat → (List (List Int)) → Int → (List (List Int)) → Int → Option (List (List Int))
 | 0, _, _, _, _ => none
 | n + 1, t11, t12, t3, t13 =>
  if (decide (t13 < t12) = true) then
   if ((0 ≤ t13) ∧ (t13 < (t11.length : Int))) then
    (graph_preds_l6 n t13 t11 t12 t13 (t11.getD t13.toNat []) ((t11.getD t13.toNat []).length : Int) t3 0).bind fun r0 =>
     (graph_preds_l3 n t11 t12 r0 (IntKind.wrap .i64 (t13 + 1)))
   else none
  else some t3
noncomputable def graph_preds (n : Nat) (t0 : (List (List Int))) : Option (List (List Int)) :=
 if ((0 ≤ (t0.length : Int)) ∧ (((t0.length : Int) ≤ (t0.length : Int)) ∧ ((t0.length : Int) ≤ 8589934592))) then
  (graph_preds_l3 n t0 (t0.length : Int) (List.replicate ((t0.length : Int).toNat) []) 0).bind fun r0 =>
   some r0
 else none
noncomputable def graph_preds_l6_h : Sh := ⟨[(4, (.val (.int .i64))), (11, (.val (.list (.list (.int .i64))))), (12, (.val (.int .i64))), (13, (.val (.int .i64))), (18, (.val (.list (.int .i64)))), (19, (.val (.int .i64)))], [(3, (.rows (.int .i64))), (20, (.val (.int .i64)))], [3, 7, 20, 21, 22, 23, 24, 25, 26, 27, 28, 29, 30, 31, 32, 33, 34], [⟨.exit 2, [(3, (.rows (.int .i64)))]⟩]⟩
noncomputable def graph_preds_l6_F (n : Nat) : graph_preds_l6_h.Fn := fun x y => graph_preds_l6 n x.1 x.2.1 x.2.2.1 x.2.2.2.1 x.2.2.2.2.1 x.2.2.2.2.2.1 y.1 y.2.1
noncomputable def graph_preds_l6_k (n : Nat) : Cut := graph_preds_l6_h.cut (graph_preds_l6_F n)
noncomputable def graph_preds_l3_h : Sh := ⟨[(11, (.val (.list (.list (.int .i64))))), (12, (.val (.int .i64)))], [(3, (.rows (.int .i64))), (13, (.val (.int .i64)))], [3, 4, 5, 7, 13, 14, 15, 16, 17, 18, 19, 20, 21, 22, 23, 24, 25, 26, 27, 28, 29, 30, 31, 32, 33, 34, 35], [⟨.exit 0, [(3, (.rows (.int .i64)))]⟩]⟩
noncomputable def graph_preds_l3_F (n : Nat) : graph_preds_l3_h.Fn := fun x y => graph_preds_l3 n x.1 x.2.1 y.1 y.2.1
noncomputable def graph_preds_l3_k (n : Nat) : Cut := graph_preds_l3_h.cut (graph_preds_l3_F n)
noncomputable def graph_preds_e (n : Nat) : Env := mkEnv T_ A_ N_ [] [((0, 6, 9), graph_preds_l6_k n), ((0, 3, 10), graph_preds_l3_k n)] 37
noncomputable def graph_preds_c (n : Nat) : Con := mkCon [(.val (.list (.list (.int .i64))))] [(.val (.list (.list (.int .i64))))] (fun x => graph_preds n x.1)
theorem graph_preds_ok (n : Nat) : EnvOK Try.prog (graph_preds_e n) := mkEnv_ok tabs trivial
theorem graph_preds_l6_m (n : Nat) : CutMeets Try.prog (.loop (codeAt [1, 1, 0, 1, 0, 0, 1, 1, 0, 0, 1, 1, 0, 0] (bodyOf Try.f32))) 37 (graph_preds_l6_k n) :=
 loop_ok graph_preds_l6_h graph_preds_l6_F (E := graph_preds_e) (l := fun n => []) mixed (fun _ => rfl) graph_preds_ok (by kernel_rfl) (fun _ => by kernel_rfl) (fun n => trivial) (fun _ _ => rfl) (fun n x y => by kernel_rfl) n
theorem graph_preds_l3_m (n : Nat) : CutMeets Try.prog (.loop (codeAt [1, 1, 0, 1, 0, 0] (bodyOf Try.f32))) 37 (graph_preds_l3_k n) :=
 loop_ok graph_preds_l3_h graph_preds_l3_F (E := graph_preds_e) (l := fun n => [(Code.loop (codeAt [1, 1, 0, 1, 0, 0, 1, 1, 0, 0, 1, 1, 0, 0] (bodyOf Try.f32)), graph_preds_l6_k n)]) mixed (fun _ => rfl) graph_preds_ok (by kernel_rfl) (fun _ => by kernel_rfl) (fun n => ⟨graph_preds_l6_m n, trivial⟩) (fun _ _ => rfl) (fun n x y => by kernel_rfl) n
theorem graph_preds_m (n : Nat) : Meets Try.prog 32 (graph_preds_c n) :=
 con_meets (l := [(Code.loop (codeAt [1, 1, 0, 1, 0, 0] (bodyOf Try.f32)), graph_preds_l3_k n)]) mixed Try.func32 (by kernel_rfl) (graph_preds_ok n) (by kernel_rfl) (by kernel_rfl) (by kernel_rfl) ⟨graph_preds_l3_m n, trivial⟩ (fun x => by kernel_rfl)
/-! 12 lockstep/graph.Make -/
noncomputable def graph_Make_l6 : Nat → L_api_Graph → (List (List Int)) → Int → (List (List Int)) → Int → Option ((List (List Int)) × L_api_Graph)
 | 0, _, _, _, _, _ => none
 | n + 1, t2, t24, t25, t5, t26 =>
  if (decide (t26 < t25) = true) then
   if ((0 ≤ t26) ∧ (t26 < (t24.length : Int))) then
    (slices_Clone_int_int n (t24.getD t26.toNat [])).bind fun r0 =>
     if ((t5 ++ [r0]).length ≤ Ev.most) then
      (graph_Make_l6 n t2 t24 t25 (t5 ++ [r0]) (IntKind.wrap .i64 (t26 + 1)))
     else none
   else none
  else some (t5, t2)
noncomputable def graph_Make (n : Nat) (t0 : (List (List Int))) : Option (L_api_Graph × Int) :=
 if (decide ((t0.length : Int) < 1) = false) then
  if (decide ((t0.length : Int) > 64) = false) then
   (slices_ContainsFunc_int_int_graph_Make_1 n t0 ((t0.length : Int), ())).bind fun r0 =>
    if (r0.1 = true) then
     some (([], [], ()), 5)
    else if (((0 : Int) ≤ 0) ∧ ((0 ≤ r0.2.1) ∧ (r0.2.1 ≤ 8589934592))) then
     (graph_Make_l6 n ([], [], ()) t0 (t0.length : Int) [] 0).bind fun r1 =>
      (graph_preds n r1.1).bind fun r2 =>
       some ((r1.1, r2, ()), 0)
    else none
  else some (([], [], ()), 5)
 else some (([], [], ()), 5)
noncomputable def graph_Make_l6_h : Sh := ⟨[(2, (.box (.pair (.own (.list (.int .i64))) (.pair (.val (.list (.list (.int .i64)))) .unit)))), (24, (.val (.list (.list (.int .i64))))), (25, (.val (.int .i64)))], [(5, (.own (.list (.int .i64)))), (26, (.val (.int .i64)))], [5, 7, 26, 27, 28, 29, 30, 31, 32, 33, 34, 35], [⟨.exit 0, [(5, (.own (.list (.int .i64))))]⟩]⟩
noncomputable def graph_Make_l6_F (n : Nat) : graph_Make_l6_h.Fn := fun x y => graph_Make_l6 n x.1 x.2.1 x.2.2.1 y.1 y.2.1
noncomputable def graph_Make_l6_k (n : Nat) : Cut := graph_Make_l6_h.cut (graph_Make_l6_F n)
noncomputable def graph_Make_e (n : Nat) : Env := mkEnv T_ A_ N_ [(29, graph_Make_1_c n), (28, slices_ContainsFunc_int_int_graph_Make_1_c n), (31, slices_Clone_int_int_c n), (32, graph_preds_c n)] [((0, 6, 9), graph_Make_l6_k n)] 40
noncomputable def graph_Make_c (n : Nat) : Con := mkCon [(.val (.list (.list (.int .i64))))] [(.val Y_api_Graph), (.val (.int .i64))] (fun x => graph_Make n x.1)
theorem graph_Make_ok (n : Nat) : EnvOK Try.prog (graph_Make_e n) := mkEnv_ok tabs ⟨⟨graph_Make_1_m n, fok29⟩, ⟨slices_ContainsFunc_int_int_graph_Make_1_m n, fok28⟩, ⟨slices_Clone_int_int_m n, fok31⟩, ⟨graph_preds_m n, fok32⟩, trivial⟩
theorem graph_Make_l6_m (n : Nat) : CutMeets Try.prog (.loop (codeAt [1, 1, 1, 1, 0, 1, 0, 0] (bodyOf Try.f12))) 40 (graph_Make_l6_k n) :=
 loop_ok graph_Make_l6_h graph_Make_l6_F (E := graph_Make_e) (l := fun n => []) mixed (fun _ => rfl) graph_Make_ok (by kernel_rfl) (fun _ => by kernel_rfl) (fun n => trivial) (fun _ _ => rfl) (fun n x y => by kernel_rfl) n
theorem graph_Make_m (n : Nat) : Meets Try.prog 12 (graph_Make_c n) :=
 con_meets (l := [(Code.loop (codeAt [1, 1, 1, 1, 0, 1, 0, 0] (bodyOf Try.f12)), graph_Make_l6_k n)]) mixed Try.func12 (by kernel_rfl) (graph_Make_ok n) (by kernel_rfl) (by kernel_rfl) (by kernel_rfl) ⟨graph_Make_l6_m n, trivial⟩ (fun x => by kernel_rfl)
/-! 53 slices.Equal[[]int,int] -/
noncomputable def slices_Equal_int_int_l4 : Nat → (List Int) → (List Int) → Int → Int → Option (Sum Unit Bool)
 | 0, _, _, _, _ => none
 | n + 1, t0, t1, t12, t13 =>
  if (decide (t13 < t12) = true) then
   if ((0 ≤ t13) ∧ (t13 < (t0.length : Int))) then
    if ((0 ≤ t13) ∧ (t13 < (t1.length : Int))) then
     if (((t0.getD t13.toNat 0) != (t1.getD t13.toNat 0)) = true) then
      some (.inr false)
     else (slices_Equal_int_int_l4 n t0 t1 t12 (IntKind.wrap .i64 (t13 + 1)))
    else none
   else none
  else some (.inl ())
noncomputable def slices_Equal_int_int (n : Nat) (t0 : (List Int)) (t1 : (List Int)) : Option Bool :=
 if (((t0.length : Int) != (t1.length : Int)) = true) then
  some false
 else (slices_Equal_int_int_l4 n t0 t1 (t0.length : Int) 0).bind fun r0 =>
  match r0 with
   | .inl r1 =>
    some true
   | .inr r1 =>
    some r1
noncomputable def slices_Equal_int_int_l4_h : Sh := ⟨[(0, (.val (.list (.int .i64)))), (1, (.val (.list (.int .i64)))), (12, (.val (.int .i64)))], [(13, (.val (.int .i64)))], [4, 5, 13, 14, 15, 16, 17, 18, 19, 20, 21, 22, 23, 24, 25], [⟨.exit 0, []⟩, ⟨.ret, [(4, (.val .bool))]⟩]⟩
noncomputable def slices_Equal_int_int_l4_F (n : Nat) : slices_Equal_int_int_l4_h.Fn := fun x y => slices_Equal_int_int_l4 n x.1 x.2.1 x.2.2.1 y.1
noncomputable def slices_Equal_int_int_l4_k (n : Nat) : Cut := slices_Equal_int_int_l4_h.cut (slices_Equal_int_int_l4_F n)
noncomputable def slices_Equal_int_int_e (n : Nat) : Env := mkEnv T_ A_ N_ [] [((0, 4, 8), slices_Equal_int_int_l4_k n)] 26
noncomputable def slices_Equal_int_int_c (n : Nat) : Con := mkCon [(.val (.list (.int .i64))), (.val (.list (.int .i64)))] [(.val .bool)] (fun x => slices_Equal_int_int n x.1 x.2.1)
theorem slices_Equal_int_int_ok (n : Nat) : EnvOK Try.prog (slices_Equal_int_int_e n) := mkEnv_ok tabs trivial
theorem slices_Equal_int_int_l4_m (n : Nat) : CutMeets Try.prog (.loop (codeAt [1, 1, 0, 1, 0, 0] (bodyOf Try.f53))) 26 (slices_Equal_int_int_l4_k n) :=
 loop_ok slices_Equal_int_int_l4_h slices_Equal_int_int_l4_F (E := slices_Equal_int_int_e) (l := fun n => []) mixed (fun _ => rfl) slices_Equal_int_int_ok (by kernel_rfl) (fun _ => by kernel_rfl) (fun n => trivial) (fun _ _ => rfl) (fun n x y => by kernel_rfl) n
theorem slices_Equal_int_int_m (n : Nat) : Meets Try.prog 53 (slices_Equal_int_int_c n) :=
 con_meets (l := [(Code.loop (codeAt [1, 1, 0, 1, 0, 0] (bodyOf Try.f53)), slices_Equal_int_int_l4_k n)]) mixed Try.func53 (by kernel_rfl) (slices_Equal_int_int_ok n) (by kernel_rfl) (by kernel_rfl) (by kernel_rfl) ⟨slices_Equal_int_int_l4_m n, trivial⟩ (fun x => by kernel_rfl)
/-! 52 slices.EqualFunc[[][]int,[][]int,[]int,[]int] -/
noncomputable def slices_EqualFunc_int_int_int_int_slices_Equal_int_int_l4 : Nat → (List (List Int)) → Unit → (List (List Int)) → Int → Int → Option (Sum Unit Bool)
 | 0, _, _, _, _, _ => none
 | n + 1, t1, t2, t15, t16, t17 =>
  if (decide (t17 < t16) = true) then
   if ((0 ≤ t17) ∧ (t17 < (t15.length : Int))) then
    if ((0 ≤ t17) ∧ (t17 < (t1.length : Int))) then
     (slices_Equal_int_int n (t15.getD t17.toNat []) (t1.getD t17.toNat [])).bind fun r0 =>
      if ((!r0) = true) then
       some (.inr false)
      else (slices_EqualFunc_int_int_int_int_slices_Equal_int_int_l4 n t1 () t15 t16 (IntKind.wrap .i64 (t17 + 1)))
    else none
   else none
  else some (.inl ())
noncomputable def slices_EqualFunc_int_int_int_int_slices_Equal_int_int (n : Nat) (t0 : (List (List Int))) (t1 : (List (List Int))) (t2 : Unit) : Option Bool :=
 if (((t0.length : Int) != (t1.length : Int)) = true) then
  some false
 else (slices_EqualFunc_int_int_int_int_slices_Equal_int_int_l4 n t1 () t0 (t0.length : Int) 0).bind fun r0 =>
  match r0 with
   | .inl r1 =>
    some true
   | .inr r1 =>
    some r1
noncomputable def slices_EqualFunc_int_int_int_int_slices_Equal_int_int_l4_h : Sh := ⟨[(1, (.val (.list (.list (.int .i64))))), (2, (.func 53 0 .unit)), (15, (.val (.list (.list (.int .i64))))), (16, (.val (.int .i64)))], [(17, (.val (.int .i64)))], [6, 7, 8, 9, 17, 18, 19, 20, 21, 22, 23, 24, 25, 26, 27, 28, 29, 30, 31], [⟨.exit 0, []⟩, ⟨.ret, [(6, (.val .bool))]⟩]⟩
noncomputable def slices_EqualFunc_int_int_int_int_slices_Equal_int_int_l4_F (n : Nat) : slices_EqualFunc_int_int_int_int_slices_Equal_int_int_l4_h.Fn := fun x y => slices_EqualFunc_int_int_int_int_slices_Equal_int_int_l4 n x.1 x.2.1 x.2.2.1 x.2.2.2.1 y.1
noncomputable def slices_EqualFunc_int_int_int_int_slices_Equal_int_int_l4_k (n : Nat) : Cut := slices_EqualFunc_int_int_int_int_slices_Equal_int_int_l4_h.cut (slices_EqualFunc_int_int_int_int_slices_Equal_int_int_l4_F n)
noncomputable def slices_EqualFunc_int_int_int_int_slices_Equal_int_int_e (n : Nat) : Env := mkEnv T_ A_ N_ [(53, slices_Equal_int_int_c n)] [((0, 4, 9), slices_EqualFunc_int_int_int_int_slices_Equal_int_int_l4_k n)] 32
noncomputable def slices_EqualFunc_int_int_int_int_slices_Equal_int_int_c (n : Nat) : Con := mkCon [(.val (.list (.list (.int .i64)))), (.val (.list (.list (.int .i64)))), (.func 53 0 .unit)] [(.val .bool)] (fun x => slices_EqualFunc_int_int_int_int_slices_Equal_int_int n x.1 x.2.1 x.2.2.1)
theorem slices_EqualFunc_int_int_int_int_slices_Equal_int_int_ok (n : Nat) : EnvOK Try.prog (slices_EqualFunc_int_int_int_int_slices_Equal_int_int_e n) := mkEnv_ok tabs ⟨⟨slices_Equal_int_int_m n, fok53⟩, trivial⟩
theorem slices_EqualFunc_int_int_int_int_slices_Equal_int_int_l4_m (n : Nat) : CutMeets Try.prog (.loop (codeAt [1, 1, 0, 1, 0, 0] (bodyOf Try.f52))) 32 (slices_EqualFunc_int_int_int_int_slices_Equal_int_int_l4_k n) :=
 loop_ok slices_EqualFunc_int_int_int_int_slices_Equal_int_int_l4_h slices_EqualFunc_int_int_int_int_slices_Equal_int_int_l4_F (E := slices_EqualFunc_int_int_int_int_slices_Equal_int_int_e) (l := fun n => []) mixed (fun _ => rfl) slices_EqualFunc_int_int_int_int_slices_Equal_int_int_ok (by kernel_rfl) (fun _ => by kernel_rfl) (fun n => trivial) (fun _ _ => rfl) (fun n x y => by kernel_rfl) n
theorem slices_EqualFunc_int_int_int_int_slices_Equal_int_int_m (n : Nat) : Meets Try.prog 52 (slices_EqualFunc_int_int_int_int_slices_Equal_int_int_c n) :=
 con_meets (l := [(Code.loop (codeAt [1, 1, 0, 1, 0, 0] (bodyOf Try.f52)), slices_EqualFunc_int_int_int_int_slices_Equal_int_int_l4_k n)]) mixed Try.func52 (by kernel_rfl) (slices_EqualFunc_int_int_int_int_slices_Equal_int_int_ok n) (by kernel_rfl) (by kernel_rfl) (by kernel_rfl) ⟨slices_EqualFunc_int_int_int_int_slices_Equal_int_int_l4_m n, trivial⟩ (fun x => by kernel_rfl)
/-! 33 lockstep/graph.May -/
noncomputable def graph_May (n : Nat) (t0 : L_api_Graph) : Option Bool :=
 (graph_Make n t0.1).bind fun r0 =>
  if ((r0.2 == 0) = true) then
   (slices_EqualFunc_int_int_int_int_slices_Equal_int_int n r0.1.2.1 t0.2.1 ()).bind fun r1 =>
    some r1
  else some false
noncomputable def graph_May_e (n : Nat) : Env := mkEnv T_ A_ N_ [(12, graph_Make_c n), (53, slices_Equal_int_int_c n), (52, slices_EqualFunc_int_int_int_int_slices_Equal_int_int_c n)] [] 20
noncomputable def graph_May_c (n : Nat) : Con := mkCon [(.val Y_api_Graph)] [(.val .bool)] (fun x => graph_May n x.1)
theorem graph_May_ok (n : Nat) : EnvOK Try.prog (graph_May_e n) := mkEnv_ok tabs ⟨⟨graph_Make_m n, fok12⟩, ⟨slices_Equal_int_int_m n, fok53⟩, ⟨slices_EqualFunc_int_int_int_int_slices_Equal_int_int_m n, fok52⟩, trivial⟩
theorem graph_May_m (n : Nat) : Meets Try.prog 33 (graph_May_c n) :=
 con_meets (l := []) mixed Try.func33 (by kernel_rfl) (graph_May_ok n) (by kernel_rfl) (by kernel_rfl) (by kernel_rfl) trivial (fun x => by kernel_rfl)
/-! 34 lockstep/pdom.ends -/
noncomputable def pdom_ends_l3 : Nat → (List Bool) → (List Bool) → (List (List Int)) → Int → Int → Option ((List Bool) × (List Bool))
 | 0, _, _, _, _, _ => none
 | n + 1, t2, t3, t7, t8, t9 =>
  if (decide (t9 < t8) = true) then
   if ((0 ≤ t9) ∧ (t9 < (t7.length : Int))) then
    if ((0 ≤ t9) ∧ (t9 < 64)) then
     (pdom_ends_l3 n t2 (t3.set t9.toNat (((t7.getD t9.toNat []).length : Int) == 0)) t7 t8 (IntKind.wrap .i64 (t9 + 1)))
    else none
   else none
  else some (t2, t3)
noncomputable def pdom_ends (n : Nat) (t0 : L_api_Graph) : Option (List Bool) :=
 (pdom_ends_l3 n ([false, false, false, false, false, false, false, false, false, false, false, false, false, false, false, false, false, false, false, false, false, false, false, false, false, false, false, false, false, false, false, false, false, false, false, false, false, false, false, false, false, false, false, false, false, false, false, false, false, false, false, false, false, false, false, false, false, false, false, false, false, false, false, false]) ([false, false, false, false, false, false, false, false, false, false, false, false, false, false, false, false, false, false, false, false, false, false, false, false, false, false, false, false, false, false, false, false, false, false, false, false, false, false, false, false, false, false, false, false, false, false, false, false, false, false, false, false, false, false, false, false, false, false, false, false, false, false, false, false]) t0.1 (t0.1.length : Int) 0).bind fun r0 =>
  some r0.2
noncomputable def pdom_ends_l3_h : Sh := ⟨[(2, (.box (.val (.arr 64 .bool)))), (3, (.box (.val (.arr 64 .bool)))), (7, (.val (.list (.list (.int .i64))))), (8, (.val (.int .i64)))], [(9, (.val (.int .i64)))], [4, 5, 9, 10, 11, 12, 13, 14, 15, 16, 17, 18, 19], [⟨.exit 0, []⟩]⟩
noncomputable def pdom_ends_l3_F (n : Nat) : pdom_ends_l3_h.Fn := fun x y => pdom_ends_l3 n x.1 x.2.1 x.2.2.1 x.2.2.2.1 y.1
noncomputable def pdom_ends_l3_k (n : Nat) : Cut := pdom_ends_l3_h.cut (pdom_ends_l3_F n)
noncomputable def pdom_ends_e (n : Nat) : Env := mkEnv T_ A_ N_ [] [((0, 3, 6), pdom_ends_l3_k n)] 21
noncomputable def pdom_ends_c (n : Nat) : Con := mkCon [(.val Y_api_Graph)] [(.val (.arr 64 .bool))] (fun x => pdom_ends n x.1)
theorem pdom_ends_ok (n : Nat) : EnvOK Try.prog (pdom_ends_e n) := mkEnv_ok tabs trivial
theorem pdom_ends_l3_m (n : Nat) : CutMeets Try.prog (.loop (codeAt [1, 1, 0, 1, 0, 0] (bodyOf Try.f34))) 21 (pdom_ends_l3_k n) :=
 loop_ok pdom_ends_l3_h pdom_ends_l3_F (E := pdom_ends_e) (l := fun n => []) mixed (fun _ => rfl) pdom_ends_ok (by kernel_rfl) (fun _ => by kernel_rfl) (fun n => trivial) (fun _ _ => rfl) (fun n x y => by kernel_rfl) n
theorem pdom_ends_m (n : Nat) : Meets Try.prog 34 (pdom_ends_c n) :=
 con_meets (l := [(Code.loop (codeAt [1, 1, 0, 1, 0, 0] (bodyOf Try.f34)), pdom_ends_l3_k n)]) mixed Try.func34 (by kernel_rfl) (pdom_ends_ok n) (by kernel_rfl) (by kernel_rfl) (by kernel_rfl) ⟨pdom_ends_l3_m n, trivial⟩ (fun x => by kernel_rfl)
/-! 35 lockstep/pdom.back -/
noncomputable def pdom_back_l3 : Nat → L_api_Graph → (List Bool) → (List Bool) → Int → (List Int) → Int → Option ((List Int) × (L_api_Graph × ((List Bool) × (List Bool))))
 | 0, _, _, _, _, _, _ => none
 | n + 1, t2, t3, t4, t12, t5, t13 =>
  if (decide (t13 < t12) = true) then
   if ((0 ≤ t13) ∧ (t13 < 64)) then
    if ((t3.getD t13.toNat false) = true) then
     if ((t5 ++ [t13]).length ≤ Ev.most) then
      (pdom_back_l3 n t2 t3 t4 t12 (t5 ++ [t13]) (IntKind.wrap .i64 (t13 + 1)))
     else none
    else (pdom_back_l3 n t2 t3 t4 t12 t5 (IntKind.wrap .i64 (t13 + 1)))
   else none
  else some (t5, t2, t3, t4)
noncomputable def pdom_back_l12 : Nat → L_api_Graph → (List Bool) → (List Bool) → (List Int) → Int → (List Int) → Int → Option ((List Int) × (L_api_Graph × ((List Bool) × (List Bool))))
 | 0, _, _, _, _, _, _, _ => none
 | n + 1, t2, t3, t4, t42, t43, t5, t44 =>
  if (decide (t44 < t43) = true) then
   if ((0 ≤ t44) ∧ (t44 < (t42.length : Int))) then
    if ((0 ≤ (t42.getD t44.toNat 0)) ∧ ((t42.getD t44.toNat 0) < 64)) then
     if ((!(t3.getD ((t42.getD t44.toNat 0).toNat) false)) = true) then
      if ((0 ≤ (t42.getD t44.toNat 0)) ∧ ((t42.getD t44.toNat 0) < 64)) then
       if ((t5 ++ [(t42.getD t44.toNat 0)]).length ≤ Ev.most) then
        (pdom_back_l12 n t2 (t3.set ((t42.getD t44.toNat 0).toNat) true) t4 t42 t43 (t5 ++ [(t42.getD t44.toNat 0)]) (IntKind.wrap .i64 (t44 + 1)))
       else none
      else none
     else (pdom_back_l12 n t2 t3 t4 t42 t43 t5 (IntKind.wrap .i64 (t44 + 1)))
    else none
   else none
  else some (t5, t2, t3, t4)
noncomputable def pdom_back_l8 : Nat → L_api_Graph → (List Bool) → (List Bool) → (List Int) → Option (L_api_Graph × ((List Bool) × (List Bool)))
 | 0, _, _, _, _ => none
 | n + 1, t2, t3, t4, t5 =>
  if (decide ((t5.length : Int) > 0) = true) then
   if ((0 ≤ (IntKind.wrap .i64 ((t5.length : Int) - 1))) ∧ ((IntKind.wrap .i64 ((t5.length : Int) - 1)) < (t5.length : Int))) then
    if ((0 ≤ (IntKind.wrap .i64 ((t5.length : Int) - 1))) ∧ ((IntKind.wrap .i64 ((t5.length : Int) - 1)) ≤ (t5.length : Int))) then
     if ((0 ≤ (t5.getD ((IntKind.wrap .i64 ((t5.length : Int) - 1)).toNat) 0)) ∧ ((t5.getD ((IntKind.wrap .i64 ((t5.length : Int) - 1)).toNat) 0) < (t2.2.1.length : Int))) then
      (pdom_back_l12 n t2 t3 t4 (t2.2.1.getD ((t5.getD ((IntKind.wrap .i64 ((t5.length : Int) - 1)).toNat) 0).toNat) []) ((t2.2.1.getD ((t5.getD ((IntKind.wrap .i64 ((t5.length : Int) - 1)).toNat) 0).toNat) []).length : Int) (t5.take ((IntKind.wrap .i64 ((t5.length : Int) - 1)).toNat)) 0).bind fun r0 =>
       (pdom_back_l8 n r0.2.1 r0.2.2.1 r0.2.2.2 r0.1)
     else none
    else none
   else none
  else some (t2, t3, t4)
noncomputable def pdom_back (n : Nat) (t0 : L_api_Graph) (t1 : (List Bool)) : Option (List Bool) :=
 (pdom_back_l3 n t0 t1 ([false, false, false, false, false, false, false, false, false, false, false, false, false, false, false, false, false, false, false, false, false, false, false, false, false, false, false, false, false, false, false, false, false, false, false, false, false, false, false, false, false, false, false, false, false, false, false, false, false, false, false, false, false, false, false, false, false, false, false, false, false, false, false, false]) (t0.1.length : Int) [] 0).bind fun r0 =>
  (pdom_back_l8 n r0.2.1 r0.2.2.1 r0.2.2.2 r0.1).bind fun r1 =>
   some r1.2.1
noncomputable def pdom_back_l3_h : Sh := ⟨[(2, (.box (.val Y_api_Graph))), (3, (.box (.val (.arr 64 .bool)))), (4, (.box (.val (.arr 64 .bool)))), (12, (.val (.int .i64)))], [(5, (.own (.int .i64))), (13, (.val (.int .i64)))], [5, 6, 13, 14, 15, 16, 17, 18, 19, 20, 21, 22, 23], [⟨.exit 0, [(5, (.own (.int .i64)))]⟩]⟩
noncomputable def pdom_back_l3_F (n : Nat) : pdom_back_l3_h.Fn := fun x y => pdom_back_l3 n x.1 x.2.1 x.2.2.1 x.2.2.2.1 y.1 y.2.1
noncomputable def pdom_back_l3_k (n : Nat) : Cut := pdom_back_l3_h.cut (pdom_back_l3_F n)
noncomputable def pdom_back_l12_h : Sh := ⟨[(2, (.box (.val Y_api_Graph))), (3, (.box (.val (.arr 64 .bool)))), (4, (.box (.val (.arr 64 .bool)))), (42, (.val (.list (.int .i64)))), (43, (.val (.int .i64)))], [(5, (.own (.int .i64))), (44, (.val (.int .i64)))], [5, 9, 44, 45, 46, 47, 48, 49, 50, 51, 52, 53, 54, 55, 56, 57, 58], [⟨.exit 4, [(5, (.own (.int .i64)))]⟩]⟩
noncomputable def pdom_back_l12_F (n : Nat) : pdom_back_l12_h.Fn := fun x y => pdom_back_l12 n x.1 x.2.1 x.2.2.1 x.2.2.2.1 x.2.2.2.2.1 y.1 y.2.1
noncomputable def pdom_back_l12_k (n : Nat) : Cut := pdom_back_l12_h.cut (pdom_back_l12_F n)
noncomputable def pdom_back_l8_h : Sh := ⟨[(2, (.box (.val Y_api_Graph))), (3, (.box (.val (.arr 64 .bool)))), (4, (.box (.val (.arr 64 .bool))))], [(5, (.own (.int .i64)))], [5, 7, 9, 24, 25, 26, 27, 28, 29, 30, 31, 32, 33, 34, 35, 36, 37, 38, 39, 40, 41, 42, 43, 44, 45, 46, 47, 48, 49, 50, 51, 52, 53, 54, 55, 56, 57, 58], [⟨.exit 2, []⟩]⟩
noncomputable def pdom_back_l8_F (n : Nat) : pdom_back_l8_h.Fn := fun x y => pdom_back_l8 n x.1 x.2.1 x.2.2.1 y.1
noncomputable def pdom_back_l8_k (n : Nat) : Cut := pdom_back_l8_h.cut (pdom_back_l8_F n)
noncomputable def pdom_back_e (n : Nat) : Env := mkEnv T_ A_ N_ [] [((0, 3, 7), pdom_back_l3_k n), ((0, 12, 17), pdom_back_l12_k n), ((0, 8, 17), pdom_back_l8_k n)] 60
noncomputable def pdom_back_c (n : Nat) : Con := mkCon [(.val Y_api_Graph), (.val (.arr 64 .bool))] [(.val (.arr 64 .bool))] (fun x => pdom_back n x.1 x.2.1)
theorem pdom_back_ok (n : Nat) : EnvOK Try.prog (pdom_back_e n) := mkEnv_ok tabs trivial
theorem pdom_back_l3_m (n : Nat) : CutMeets Try.prog (.loop (codeAt [1, 1, 0, 1, 0, 0] (bodyOf Try.f35))) 60 (pdom_back_l3_k n) :=
 loop_ok pdom_back_l3_h pdom_back_l3_F (E := pdom_back_e) (l := fun n => []) mixed (fun _ => rfl) pdom_back_ok (by kernel_rfl) (fun _ => by kernel_rfl) (fun n => trivial) (fun _ _ => rfl) (fun n x y => by kernel_rfl) n
theorem pdom_back_l12_m (n : Nat) : CutMeets Try.prog (.loop (codeAt [1, 1, 1, 0, 0, 0, 1, 0, 1, 1, 1, 0, 0] (bodyOf Try.f35))) 60 (pdom_back_l12_k n) :=
 loop_ok pdom_back_l12_h pdom_back_l12_F (E := pdom_back_e) (l := fun n => []) mixed (fun _ => rfl) pdom_back_ok (by kernel_rfl) (fun _ => by kernel_rfl) (fun n => trivial) (fun _ _ => rfl) (fun n x y => by kernel_rfl) n
theorem pdom_back_l8_m (n : Nat) : CutMeets Try.prog (.loop (codeAt [1, 1, 1, 0, 0, 0] (bodyOf Try.f35))) 60 (pdom_back_l8_k n) :=
 loop_ok pdom_back_l8_h pdom_back_l8_F (E := pdom_back_e) (l := fun n => [(Code.loop (codeAt [1, 1, 1, 0, 0, 0, 1, 0, 1, 1, 1, 0, 0] (bodyOf Try.f35)), pdom_back_l12_k n)]) mixed (fun _ => rfl) pdom_back_ok (by kernel_rfl) (fun _ => by kernel_rfl) (fun n => ⟨pdom_back_l12_m n, trivial⟩) (fun _ _ => rfl) (fun n x y => by kernel_rfl) n
theorem pdom_back_m (n : Nat) : Meets Try.prog 35 (pdom_back_c n) :=
 con_meets (l := [(Code.loop (codeAt [1, 1, 0, 1, 0, 0] (bodyOf Try.f35)), pdom_back_l3_k n), (Code.loop (codeAt [1, 1, 1, 0, 0, 0] (bodyOf Try.f35)), pdom_back_l8_k n)]) mixed Try.func35 (by kernel_rfl) (pdom_back_ok n) (by kernel_rfl) (by kernel_rfl) (by kernel_rfl) ⟨pdom_back_l3_m n, pdom_back_l8_m n, trivial⟩ (fun x => by kernel_rfl)
/-! 36 lockstep/pdom.missing -/
noncomputable def pdom_missing_l2 : Nat → L_api_Graph → (List Bool) → Int → Int → Option (Sum (L_api_Graph × (List Bool)) (Int × (L_api_Graph × (List Bool))))
 | 0, _, _, _, _ => none
 | n + 1, t2, t3, t8, t9 =>
  if (decide (t9 < t8) = true) then
   if ((0 ≤ t9) ∧ (t9 < 64)) then
    if ((!(t3.getD t9.toNat false)) = true) then
     some (.inr (t9, t2, t3))
    else (pdom_missing_l2 n t2 t3 t8 (IntKind.wrap .i64 (t9 + 1)))
   else none
  else some (.inl (t2, t3))
noncomputable def pdom_missing (n : Nat) (t0 : L_api_Graph) (t1 : (List Bool)) : Option Int :=
 (pdom_missing_l2 n t0 t1 (t0.1.length : Int) 0).bind fun r0 =>
  match r0 with
   | .inl r1 =>
    some (r1.1.1.length : Int)
   | .inr r1 =>
    some r1.1
noncomputable def pdom_missing_l2_h : Sh := ⟨[(2, (.box (.val Y_api_Graph))), (3, (.box (.val (.arr 64 .bool)))), (8, (.val (.int .i64)))], [(9, (.val (.int .i64)))], [4, 5, 9, 10, 11, 12, 13, 14, 15, 16, 17], [⟨.exit 0, []⟩, ⟨.ret, [(4, (.val (.int .i64)))]⟩]⟩
noncomputable def pdom_missing_l2_F (n : Nat) : pdom_missing_l2_h.Fn := fun x y => pdom_missing_l2 n x.1 x.2.1 x.2.2.1 y.1
noncomputable def pdom_missing_l2_k (n : Nat) : Cut := pdom_missing_l2_h.cut (pdom_missing_l2_F n)
noncomputable def pdom_missing_e (n : Nat) : Env := mkEnv T_ A_ N_ [] [((0, 2, 6), pdom_missing_l2_k n)] 21
noncomputable def pdom_missing_c (n : Nat) : Con := mkCon [(.val Y_api_Graph), (.val (.arr 64 .bool))] [(.val (.int .i64))] (fun x => pdom_missing n x.1 x.2.1)
theorem pdom_missing_ok (n : Nat) : EnvOK Try.prog (pdom_missing_e n) := mkEnv_ok tabs trivial
theorem pdom_missing_l2_m (n : Nat) : CutMeets Try.prog (.loop (codeAt [1, 0, 1, 0, 0] (bodyOf Try.f36))) 21 (pdom_missing_l2_k n) :=
 loop_ok pdom_missing_l2_h pdom_missing_l2_F (E := pdom_missing_e) (l := fun n => []) mixed (fun _ => rfl) pdom_missing_ok (by kernel_rfl) (fun _ => by kernel_rfl) (fun n => trivial) (fun _ _ => rfl) (fun n x y => by kernel_rfl) n
theorem pdom_missing_m (n : Nat) : Meets Try.prog 36 (pdom_missing_c n) :=
 con_meets (l := [(Code.loop (codeAt [1, 0, 1, 0, 0] (bodyOf Try.f36)), pdom_missing_l2_k n)]) mixed Try.func36 (by kernel_rfl) (pdom_missing_ok n) (by kernel_rfl) (by kernel_rfl) (by kernel_rfl) ⟨pdom_missing_l2_m n, trivial⟩ (fun x => by kernel_rfl)
/-! 14 lockstep/pdom.Exit -/
noncomputable def pdom_Exit_l12 : Nat → L_api_Graph → Int → (List Bool) → (List (List Int)) → Int → (List (List Int)) → Int → Option ((List (List Int)) × (L_api_Graph × (List Bool)))
 | 0, _, _, _, _, _, _, _ => none
 | n + 1, t2, t4, t5, t44, t45, t8, t46 =>
  if (decide (t46 < t45) = true) then
   if ((0 ≤ t46) ∧ (t46 < (t44.length : Int))) then
    if ((0 ≤ t46) ∧ (t46 < (t8.length : Int))) then
     if (((t8.getD t46.toNat []) ++ (t44.getD t46.toNat [])).length ≤ Ev.most) then
      if ((0 ≤ t46) ∧ (t46 < (t8.length : Int))) then
       if (t46.toNat = t46.toNat) then
        if ((0 ≤ t46) ∧ (t46 < 64)) then
         if ((t5.getD t46.toNat false) = true) then
          if ((0 ≤ t46) ∧ (t46 < ((t8.set t46.toNat ((t8.getD t46.toNat []) ++ (t44.getD t46.toNat []))).length : Int))) then
           if ((((t8.set t46.toNat ((t8.getD t46.toNat []) ++ (t44.getD t46.toNat []))).getD t46.toNat []) ++ [t4]).length ≤ Ev.most) then
            if ((0 ≤ t46) ∧ (t46 < ((t8.set t46.toNat ((t8.getD t46.toNat []) ++ (t44.getD t46.toNat []))).length : Int))) then
             if (t46.toNat = t46.toNat) then
              (pdom_Exit_l12 n t2 t4 t5 t44 t45 ((t8.set t46.toNat ((t8.getD t46.toNat []) ++ (t44.getD t46.toNat []))).set t46.toNat (((t8.set t46.toNat ((t8.getD t46.toNat []) ++ (t44.getD t46.toNat []))).getD t46.toNat []) ++ [t4])) (IntKind.wrap .i64 (t46 + 1)))
             else none
            else none
           else none
          else none
         else (pdom_Exit_l12 n t2 t4 t5 t44 t45 (t8.set t46.toNat ((t8.getD t46.toNat []) ++ (t44.getD t46.toNat []))) (IntKind.wrap .i64 (t46 + 1)))
        else none
       else none
      else none
     else none
    else none
   else none
  else some (t8, t2, t5)
noncomputable def pdom_Exit_s1_j0 : Nat → L_api_Graph → L_api_Graph → Int → (List Bool) → (List Bool) → Option (Sum (Int × (L_api_Graph × L_api_Graph)) (Int × (L_api_Graph × L_api_Graph)))
 | 0, _, _, _, _, _ => none
 | n + 1, t1, t2, t4, t5, t6 =>
  (pdom_missing n t1 t6).bind fun r0 =>
   if (decide (r0 < t4) = true) then
    if ((0 ≤ r0) ∧ (r0 < 64)) then
     if ((0 ≤ r0) ∧ (r0 < 64)) then
      (pdom_back n t1 (t6.set r0.toNat true)).bind fun r1 =>
       (pdom_Exit_s1_j0 n t1 t2 t4 (t5.set r0.toNat true) r1)
     else none
    else none
   else if ((0 ≤ (IntKind.wrap .i64 (t4 + 1))) ∧ (((IntKind.wrap .i64 (t4 + 1)) ≤ (IntKind.wrap .i64 (t4 + 1))) ∧ ((IntKind.wrap .i64 (t4 + 1)) ≤ 8589934592))) then
    (pdom_Exit_l12 n t2 t4 t5 t1.1 (t1.1.length : Int) (List.replicate ((IntKind.wrap .i64 (t4 + 1)).toNat) []) 0).bind fun r1 =>
     (graph_Make n r1.1).bind fun r2 =>
      some (.inl (r2.2, t1, r2.1))
   else none
noncomputable def pdom_Exit_s1 (n : Nat) (t1 : L_api_Graph) (t2 : L_api_Graph) : Option (Sum (Int × (L_api_Graph × L_api_Graph)) (Int × (L_api_Graph × L_api_Graph))) :=
  (graph_May n t1).bind fun r0 =>
   if ((!r0) = false) then
    if (decide ((t1.1.length : Int) ≥ 64) = true) then
     some (.inl (5, t1, [], [], ()))
    else (pdom_ends n t1).bind fun r1 =>
     (pdom_back n t1 r1).bind fun r2 =>
      (pdom_missing n t1 r2).bind fun r3 =>
       if (decide (r3 < (t1.1.length : Int)) = true) then
        if ((0 ≤ r3) ∧ (r3 < 64)) then
         if ((0 ≤ r3) ∧ (r3 < 64)) then
          (pdom_back n t1 (r2.set r3.toNat true)).bind fun r4 =>
           (pdom_Exit_s1_j0 n t1 t2 (t1.1.length : Int) (r1.set r3.toNat true) r4)
         else none
        else none
       else if ((0 ≤ (IntKind.wrap .i64 ((t1.1.length : Int) + 1))) ∧ (((IntKind.wrap .i64 ((t1.1.length : Int) + 1)) ≤ (IntKind.wrap .i64 ((t1.1.length : Int) + 1))) ∧ ((IntKind.wrap .i64 ((t1.1.length : Int) + 1)) ≤ 8589934592))) then
        (pdom_Exit_l12 n t2 (t1.1.length : Int) r1 t1.1 (t1.1.length : Int) (List.replicate ((IntKind.wrap .i64 ((t1.1.length : Int) + 1)).toNat) []) 0).bind fun r4 =>
         (graph_Make n r4.1).bind fun r5 =>
          some (.inl (r5.2, t1, r5.1))
       else none
   else some (.inl (5, t1, [], [], ()))
noncomputable def pdom_Exit (n : Nat) (t0 : L_api_Graph) : Option (L_api_Graph × Int) :=
 (pdom_Exit_s1 n t0 ([], [], ())).bind fun r0 =>
  match r0 with
   | .inl r1 =>
    some (r1.2.2, r1.1)
   | .inr r1 =>
    some (r1.2.2, r1.1)
noncomputable def pdom_Exit_l12_h : Sh := ⟨[(2, (.box (.val Y_api_Graph))), (4, (.val (.int .i64))), (5, (.box (.val (.arr 64 .bool)))), (44, (.val (.list (.list (.int .i64))))), (45, (.val (.int .i64)))], [(8, (.rows (.int .i64))), (46, (.val (.int .i64)))], [8, 9, 10, 46, 47, 48, 49, 50, 51, 52, 53, 54, 55, 56, 57, 58, 59, 60, 61, 62, 63, 64, 65, 66, 67, 68, 69, 70, 71, 72, 73], [⟨.exit 0, [(8, (.rows (.int .i64)))]⟩]⟩
noncomputable def pdom_Exit_l12_F (n : Nat) : pdom_Exit_l12_h.Fn := fun x y => pdom_Exit_l12 n x.1 x.2.1 x.2.2.1 x.2.2.2.1 x.2.2.2.2.1 y.1 y.2.1
noncomputable def pdom_Exit_l12_k (n : Nat) : Cut := pdom_Exit_l12_h.cut (pdom_Exit_l12_F n)
noncomputable def pdom_Exit_s1_h : Sh := ⟨[(1, (.box (.val Y_api_Graph))), (2, (.box (.val Y_api_Graph)))], [], [3, 4, 5, 6, 7, 8, 9, 10, 11, 12, 13, 14, 15, 16, 17, 18, 19, 20, 21, 22, 23, 24, 25, 26, 27, 28, 29, 30, 31, 32, 33, 34, 35, 36, 37, 38, 39, 40, 41, 42, 43, 44, 45, 46, 47, 48, 49, 50, 51, 52, 53, 54, 55, 56, 57, 58, 59, 60, 61, 62, 63, 64, 65, 66, 67, 68, 69, 70, 71, 72, 73, 74, 75, 76, 77], [⟨.ret, [(3, (.val (.int .i64)))]⟩, ⟨.normal, [(3, (.val (.int .i64)))]⟩]⟩
noncomputable def pdom_Exit_s1_F (n : Nat) : pdom_Exit_s1_h.Fn := fun x y => pdom_Exit_s1 n x.1 x.2.1
noncomputable def pdom_Exit_s1_k (n : Nat) : Cut := pdom_Exit_s1_h.cut (pdom_Exit_s1_F n)
noncomputable def pdom_Exit_s1_L : List (Lab pdom_Exit_s1_h) := [⟨0, [(4, (.val (.int .i64))), (5, (.box (.val (.arr 64 .bool)))), (6, (.box (.val (.arr 64 .bool))))], fun n x y => pdom_Exit_s1_j0 n x.1 x.2.1 y.1 y.2.1 y.2.2.1⟩]
noncomputable def pdom_Exit_e (n : Nat) : Env := mkEnv T_ A_ N_ [(12, graph_Make_c n), (33, graph_May_c n), (34, pdom_ends_c n), (35, pdom_back_c n), (36, pdom_missing_c n)] [((0, 12, 17), pdom_Exit_l12_k n), ((1, 1, 0), pdom_Exit_s1_k n)] 78
noncomputable def pdom_Exit_c (n : Nat) : Con := mkCon [(.val Y_api_Graph)] [(.val Y_api_Graph), (.val (.int .i64))] (fun x => pdom_Exit n x.1)
theorem pdom_Exit_ok (n : Nat) : EnvOK Try.prog (pdom_Exit_e n) := mkEnv_ok tabs ⟨⟨graph_Make_m n, fok12⟩, ⟨graph_May_m n, fok33⟩, ⟨pdom_ends_m n, fok34⟩, ⟨pdom_back_m n, fok35⟩, ⟨pdom_missing_m n, fok36⟩, trivial⟩
theorem pdom_Exit_l12_m (n : Nat) : CutMeets Try.prog (.loop (codeAt [1, 0, 1, 1, 1, 1, 1, 1, 1, 0, 1, 0, 0] (bodyOf Try.f14))) 78 (pdom_Exit_l12_k n) :=
 loop_ok pdom_Exit_l12_h pdom_Exit_l12_F (E := pdom_Exit_e) (l := fun n => []) mixed (fun _ => rfl) pdom_Exit_ok (by kernel_rfl) (fun _ => by kernel_rfl) (fun n => trivial) (fun _ _ => rfl) (fun n x y => by kernel_rfl) n
theorem pdom_Exit_s1_m (n : Nat) : CutMeets Try.prog (.scope (codeAt [1, 0] (bodyOf Try.f14))) 78 (pdom_Exit_s1_k n) :=
 scope_ok pdom_Exit_s1_h (pdom_Exit_s1_F n) pdom_Exit_s1_L (E := pdom_Exit_e) (l := fun n => [(Code.loop (codeAt [1, 0, 1, 1, 1, 1, 1, 1, 1, 0, 1, 0, 0] (bodyOf Try.f14)), pdom_Exit_l12_k n)]) mixed (fun _ => rfl) pdom_Exit_ok (by kernel_rfl) (fun _ => by kernel_rfl) (fun n => ⟨pdom_Exit_l12_m n, trivial⟩) ⟨⟨fun _ _ => rfl, by kernel_rfl, fun n => [(Code.loop (codeAt [1, 0, 1, 1, 1, 1, 1, 1, 1, 0, 1, 0, 0] (bodyOf Try.f14)), pdom_Exit_l12_k n)], fun _ => by kernel_rfl, fun n => ⟨pdom_Exit_l12_m n, trivial⟩, fun n x y => by kernel_rfl⟩, trivial⟩ n (fun x y => by kernel_rfl)
theorem pdom_Exit_m (n : Nat) : Meets Try.prog 14 (pdom_Exit_c n) :=
 con_meets (l := [(Code.scope (codeAt [1, 0] (bodyOf Try.f14)), pdom_Exit_s1_k n)]) mixed Try.func14 (by kernel_rfl) (pdom_Exit_ok n) (by kernel_rfl) (by kernel_rfl) (by kernel_rfl) ⟨pdom_Exit_s1_m n, trivial⟩ (fun x => by kernel_rfl)
/-! 37 lockstep/graph.Turned -/
noncomputable def graph_Turned (n : Nat) (t0 : L_api_Graph) : Option L_api_Graph :=
 (graph_May n t0).bind fun r0 =>
  if ((!r0) = true) then
   some ([], [], ())
  else (graph_Make n t0.2.1).bind fun r1 =>
   some r1.1
noncomputable def graph_Turned_e (n : Nat) : Env := mkEnv T_ A_ N_ [(12, graph_Make_c n), (33, graph_May_c n)] [] 16
noncomputable def graph_Turned_c (n : Nat) : Con := mkCon [(.val Y_api_Graph)] [(.val Y_api_Graph)] (fun x => graph_Turned n x.1)
theorem graph_Turned_ok (n : Nat) : EnvOK Try.prog (graph_Turned_e n) := mkEnv_ok tabs ⟨⟨graph_Make_m n, fok12⟩, ⟨graph_May_m n, fok33⟩, trivial⟩
theorem graph_Turned_m (n : Nat) : Meets Try.prog 37 (graph_Turned_c n) :=
 con_meets (l := []) mixed Try.func37 (by kernel_rfl) (graph_Turned_ok n) (by kernel_rfl) (by kernel_rfl) (by kernel_rfl) trivial (fun x => by kernel_rfl)
/-! 65 slices.Reverse[[]int,int] -/
noncomputable def slices_Reverse_int_int_l1 : Nat → (List Int) → Int → Int → Option (List Int)
 | 0, _, _, _ => none
 | n + 1, t0, t2, t3 =>
  if (decide (t2 < t3) = true) then
   if ((0 ≤ t3) ∧ (t3 < (t0.length : Int))) then
    if ((0 ≤ t2) ∧ (t2 < (t0.length : Int))) then
     if ((0 ≤ t2) ∧ (t2 < (t0.length : Int))) then
      if ((0 ≤ t3) ∧ (t3 < ((t0.set t2.toNat (t0.getD t3.toNat 0)).length : Int))) then
       if (0 < ((t0.set t2.toNat (t0.getD t3.toNat 0)).set t3.toNat (t0.getD t2.toNat 0)).length) then
        (slices_Reverse_int_int_l1 n ((t0.set t2.toNat (t0.getD t3.toNat 0)).set t3.toNat (t0.getD t2.toNat 0)) (IntKind.wrap .i64 (t2 + 1)) (IntKind.wrap .i64 (t3 - 1)))
       else none
      else none
     else none
    else none
   else none
  else if (0 < t0.length) then
   some t0
  else none
noncomputable def slices_Reverse_int_int (n : Nat) (t0 : (List Int)) : Option (List Int) :=
 if (0 < t0.length) then
  (slices_Reverse_int_int_l1 n t0 0 (IntKind.wrap .i64 ((t0.length : Int) - 1))).bind fun r0 =>
   if (0 < r0.length) then
    some r0
   else none
 else none
noncomputable def slices_Reverse_int_int_l1_h : Sh := ⟨[(0, (.ip (.int .i64)))], [(2, (.val (.int .i64))), (3, (.val (.int .i64)))], [2, 3, 7, 8, 9, 10, 11, 12, 13, 14, 15, 16, 17, 18, 19, 20, 21, 22, 23, 24, 25, 26, 27], [⟨.exit 0, []⟩]⟩
noncomputable def slices_Reverse_int_int_l1_F (n : Nat) : slices_Reverse_int_int_l1_h.Fn := fun x y => slices_Reverse_int_int_l1 n x.1 y.1 y.2.1
noncomputable def slices_Reverse_int_int_l1_k (n : Nat) : Cut := slices_Reverse_int_int_l1_h.cut (slices_Reverse_int_int_l1_F n)
noncomputable def slices_Reverse_int_int_e (n : Nat) : Env := mkEnv T_ A_ N_ [] [((0, 1, 2), slices_Reverse_int_int_l1_k n)] 28
noncomputable def slices_Reverse_int_int_c (n : Nat) : Con := mkCon [(.ip (.int .i64))] [] (fun x => slices_Reverse_int_int n x.1)
theorem slices_Reverse_int_int_ok (n : Nat) : EnvOK Try.prog (slices_Reverse_int_int_e n) := mkEnv_ok tabs trivial
theorem slices_Reverse_int_int_l1_m (n : Nat) : CutMeets Try.prog (.loop (codeAt [1, 0, 0] (bodyOf Try.f65))) 28 (slices_Reverse_int_int_l1_k n) :=
 loop_ok slices_Reverse_int_int_l1_h slices_Reverse_int_int_l1_F (E := slices_Reverse_int_int_e) (l := fun n => []) mixed (fun _ => rfl) slices_Reverse_int_int_ok (by kernel_rfl) (fun _ => by kernel_rfl) (fun n => trivial) (fun _ _ => rfl) (fun n x y => by kernel_rfl) n
theorem slices_Reverse_int_int_m (n : Nat) : Meets Try.prog 65 (slices_Reverse_int_int_c n) :=
 con_meets (l := [(Code.loop (codeAt [1, 0, 0] (bodyOf Try.f65)), slices_Reverse_int_int_l1_k n)]) mixed Try.func65 (by kernel_rfl) (slices_Reverse_int_int_ok n) (by kernel_rfl) (by kernel_rfl) (by kernel_rfl) ⟨slices_Reverse_int_int_l1_m n, trivial⟩ (fun x => by kernel_rfl)
/-! 65 slices.Reverse[[]int,int] -/
noncomputable def slices_Reverse_int_int_f65_l1 : Nat → (List Int) → Int → Int → Option Unit
 | 0, _, _, _ => none
 | n + 1, t0, t2, t3 =>
  if (decide (t2 < t3) = true) then
   if ((0 ≤ t3) ∧ (t3 < (t0.length : Int))) then
    if ((0 ≤ t2) ∧ (t2 < (t0.length : Int))) then
     if ((0 ≤ t2) ∧ (t2 < (t0.length : Int))) then
      none
     else none
    else none
   else none
  else some ()
noncomputable def slices_Reverse_int_int_f65 (n : Nat) (t0 : (List Int)) : Option Unit :=
 (slices_Reverse_int_int_f65_l1 n t0 0 (IntKind.wrap .i64 ((t0.length : Int) - 1))).bind fun r0 =>
  some ()
noncomputable def slices_Reverse_int_int_f65_l1_h : Sh := ⟨[(0, (.val (.list (.int .i64))))], [(2, (.val (.int .i64))), (3, (.val (.int .i64)))], [2, 3, 7, 8, 9, 10, 11, 12, 13, 14, 15, 16, 17, 18, 19, 20, 21, 22, 23, 24, 25, 26, 27], [⟨.exit 0, []⟩]⟩
noncomputable def slices_Reverse_int_int_f65_l1_F (n : Nat) : slices_Reverse_int_int_f65_l1_h.Fn := fun x y => slices_Reverse_int_int_f65_l1 n x.1 y.1 y.2.1
noncomputable def slices_Reverse_int_int_f65_l1_k (n : Nat) : Cut := slices_Reverse_int_int_f65_l1_h.cut (slices_Reverse_int_int_f65_l1_F n)
noncomputable def slices_Reverse_int_int_f65_e (n : Nat) : Env := mkEnv T_ A_ N_ [] [((0, 1, 2), slices_Reverse_int_int_f65_l1_k n)] 28
noncomputable def slices_Reverse_int_int_f65_c (n : Nat) : Con := mkCon [(.val (.list (.int .i64)))] [] (fun x => slices_Reverse_int_int_f65 n x.1)
theorem slices_Reverse_int_int_f65_ok (n : Nat) : EnvOK Try.prog (slices_Reverse_int_int_f65_e n) := mkEnv_ok tabs trivial
theorem slices_Reverse_int_int_f65_l1_m (n : Nat) : CutMeets Try.prog (.loop (codeAt [1, 0, 0] (bodyOf Try.f65))) 28 (slices_Reverse_int_int_f65_l1_k n) :=
 loop_ok slices_Reverse_int_int_f65_l1_h slices_Reverse_int_int_f65_l1_F (E := slices_Reverse_int_int_f65_e) (l := fun n => []) mixed (fun _ => rfl) slices_Reverse_int_int_f65_ok (by kernel_rfl) (fun _ => by kernel_rfl) (fun n => trivial) (fun _ _ => rfl) (fun n x y => by kernel_rfl) n
theorem slices_Reverse_int_int_f65_m (n : Nat) : Meets Try.prog 65 (slices_Reverse_int_int_f65_c n) :=
 con_meets (l := [(Code.loop (codeAt [1, 0, 0] (bodyOf Try.f65)), slices_Reverse_int_int_f65_l1_k n)]) mixed Try.func65 (by kernel_rfl) (slices_Reverse_int_int_f65_ok n) (by kernel_rfl) (by kernel_rfl) (by kernel_rfl) ⟨slices_Reverse_int_int_f65_l1_m n, trivial⟩ (fun x => by kernel_rfl)
/-! 44 lockstep/graph.Order -/
noncomputable def graph_Order_l9 : Nat → L_api_Graph → (List Bool) → (List Int) → Int → (List Int) → (List Int) → Option (Sum ((List Int) × ((List Int) × (L_api_Graph × ((List Bool) × (List Int))))) ((List Int) × ((List Int) × (L_api_Graph × ((List Bool) × (List Int))))))
 | 0, _, _, _, _, _, _ => none
 | n + 1, t2, t5, t6, t9, t7, t8 =>
  if ((0 ≤ t9) ∧ (t9 < 64)) then
   if ((0 ≤ t9) ∧ (t9 < (t2.1.length : Int))) then
    if (decide ((t6.getD t9.toNat 0) < ((t2.1.getD t9.toNat []).length : Int)) = true) then
     if ((0 ≤ t9) ∧ (t9 < (t2.1.length : Int))) then
      if ((0 ≤ t9) ∧ (t9 < 64)) then
       if ((0 ≤ (t6.getD t9.toNat 0)) ∧ ((t6.getD t9.toNat 0) < ((t2.1.getD t9.toNat []).length : Int))) then
        if ((0 ≤ t9) ∧ (t9 < 64)) then
         if ((0 ≤ t9) ∧ (t9 < 64)) then
          if ((0 ≤ ((t2.1.getD t9.toNat []).getD ((t6.getD t9.toNat 0).toNat) 0)) ∧ (((t2.1.getD t9.toNat []).getD ((t6.getD t9.toNat 0).toNat) 0) < 64)) then
           if ((!(t5.getD (((t2.1.getD t9.toNat []).getD ((t6.getD t9.toNat 0).toNat) 0).toNat) false)) = true) then
            if ((0 ≤ ((t2.1.getD t9.toNat []).getD ((t6.getD t9.toNat 0).toNat) 0)) ∧ (((t2.1.getD t9.toNat []).getD ((t6.getD t9.toNat 0).toNat) 0) < 64)) then
             if ((t8 ++ [((t2.1.getD t9.toNat []).getD ((t6.getD t9.toNat 0).toNat) 0)]).length ≤ Ev.most) then
              some (.inr (t7, (t8 ++ [((t2.1.getD t9.toNat []).getD ((t6.getD t9.toNat 0).toNat) 0)]), t2, (t5.set (((t2.1.getD t9.toNat []).getD ((t6.getD t9.toNat 0).toNat) 0).toNat) true), (t6.set t9.toNat (IntKind.wrap .i64 ((t6.getD t9.toNat 0) + 1)))))
             else none
            else none
           else (graph_Order_l9 n t2 t5 (t6.set t9.toNat (IntKind.wrap .i64 ((t6.getD t9.toNat 0) + 1))) t9 t7 t8)
          else none
         else none
        else none
       else none
      else none
     else none
    else some (.inl (t7, t8, t2, t5, t6))
   else none
  else none
noncomputable def graph_Order_s1_j0 : Nat → Int → L_api_Graph → (List Bool) → (List Int) → (List Int) → (List Int) → Option (Sum ((List Int) × L_api_Graph) ((List Int) × L_api_Graph))
 | 0, _, _, _, _, _, _ => none
 | n + 1, t1, t2, t5, t6, t7, t8 =>
  if ((0 ≤ (IntKind.wrap .i64 ((t8.length : Int) - 1))) ∧ ((IntKind.wrap .i64 ((t8.length : Int) - 1)) < (t8.length : Int))) then
   (graph_Order_l9 n t2 t5 t6 (t8.getD ((IntKind.wrap .i64 ((t8.length : Int) - 1)).toNat) 0) t7 t8).bind fun r0 =>
    match r0 with
     | .inl r1 =>
      if ((r1.1 ++ [(t8.getD ((IntKind.wrap .i64 ((t8.length : Int) - 1)).toNat) 0)]).length ≤ Ev.most) then
       if ((0 ≤ (IntKind.wrap .i64 ((r1.2.1.length : Int) - 1))) ∧ ((IntKind.wrap .i64 ((r1.2.1.length : Int) - 1)) ≤ (r1.2.1.length : Int))) then
        if (decide (((r1.2.1.take ((IntKind.wrap .i64 ((r1.2.1.length : Int) - 1)).toNat)).length : Int) > 0) = true) then
         (graph_Order_s1_j0 n t1 r1.2.2.1 r1.2.2.2.1 r1.2.2.2.2 (r1.1 ++ [(t8.getD ((IntKind.wrap .i64 ((t8.length : Int) - 1)).toNat) 0)]) (r1.2.1.take ((IntKind.wrap .i64 ((r1.2.1.length : Int) - 1)).toNat)))
        else if (0 < (r1.1 ++ [(t8.getD ((IntKind.wrap .i64 ((t8.length : Int) - 1)).toNat) 0)]).length) then
         if (0 < (r1.1 ++ [(t8.getD ((IntKind.wrap .i64 ((t8.length : Int) - 1)).toNat) 0)]).length) then
          (slices_Reverse_int_int n (r1.1 ++ [(t8.getD ((IntKind.wrap .i64 ((t8.length : Int) - 1)).toNat) 0)])).bind fun r2 =>
           some (.inl (r2, r1.2.2.1))
         else none
        else (slices_Reverse_int_int_f65 n (r1.1 ++ [(t8.getD ((IntKind.wrap .i64 ((t8.length : Int) - 1)).toNat) 0)])).bind fun r2 =>
         some (.inl ((r1.1 ++ [(t8.getD ((IntKind.wrap .i64 ((t8.length : Int) - 1)).toNat) 0)]), r1.2.2.1))
       else none
      else none
     | .inr r1 =>
      (graph_Order_s1_j0 n t1 r1.2.2.1 r1.2.2.2.1 r1.2.2.2.2 r1.1 r1.2.1)
  else none
noncomputable def graph_Order_s1 (n : Nat) (t1 : Int) (t2 : L_api_Graph) : Option (Sum ((List Int) × L_api_Graph) ((List Int) × L_api_Graph)) :=
  (graph_May n t2).bind fun r0 =>
   if ((!r0) = false) then
    if (decide (t1 < 0) = false) then
     if (decide (t1 ≥ (t2.1.length : Int)) = true) then
      some (.inl ([], t2))
     else if ((0 ≤ t1) ∧ (t1 < 64)) then
      (graph_Order_l9 n t2 (([false, false, false, false, false, false, false, false, false, false, false, false, false, false, false, false, false, false, false, false, false, false, false, false, false, false, false, false, false, false, false, false, false, false, false, false, false, false, false, false, false, false, false, false, false, false, false, false, false, false, false, false, false, false, false, false, false, false, false, false, false, false, false, false]).set t1.toNat true) ([0, 0, 0, 0, 0, 0, 0, 0, 0, 0, 0, 0, 0, 0, 0, 0, 0, 0, 0, 0, 0, 0, 0, 0, 0, 0, 0, 0, 0, 0, 0, 0, 0, 0, 0, 0, 0, 0, 0, 0, 0, 0, 0, 0, 0, 0, 0, 0, 0, 0, 0, 0, 0, 0, 0, 0, 0, 0, 0, 0, 0, 0, 0, 0]) ([t1].getD ((IntKind.wrap .i64 (([t1].length : Int) - 1)).toNat) 0) [] [t1]).bind fun r1 =>
       match r1 with
        | .inl r2 =>
         if ((r2.1 ++ [([t1].getD ((IntKind.wrap .i64 (([t1].length : Int) - 1)).toNat) 0)]).length ≤ Ev.most) then
          if ((0 ≤ (IntKind.wrap .i64 ((r2.2.1.length : Int) - 1))) ∧ ((IntKind.wrap .i64 ((r2.2.1.length : Int) - 1)) ≤ (r2.2.1.length : Int))) then
           if (decide (((r2.2.1.take ((IntKind.wrap .i64 ((r2.2.1.length : Int) - 1)).toNat)).length : Int) > 0) = true) then
            (graph_Order_s1_j0 n t1 r2.2.2.1 r2.2.2.2.1 r2.2.2.2.2 (r2.1 ++ [([t1].getD ((IntKind.wrap .i64 (([t1].length : Int) - 1)).toNat) 0)]) (r2.2.1.take ((IntKind.wrap .i64 ((r2.2.1.length : Int) - 1)).toNat)))
           else if (0 < (r2.1 ++ [([t1].getD ((IntKind.wrap .i64 (([t1].length : Int) - 1)).toNat) 0)]).length) then
            if (0 < (r2.1 ++ [([t1].getD ((IntKind.wrap .i64 (([t1].length : Int) - 1)).toNat) 0)]).length) then
             (slices_Reverse_int_int n (r2.1 ++ [([t1].getD ((IntKind.wrap .i64 (([t1].length : Int) - 1)).toNat) 0)])).bind fun r3 =>
              some (.inl (r3, r2.2.2.1))
            else none
           else (slices_Reverse_int_int_f65 n (r2.1 ++ [([t1].getD ((IntKind.wrap .i64 (([t1].length : Int) - 1)).toNat) 0)])).bind fun r3 =>
            some (.inl ((r2.1 ++ [([t1].getD ((IntKind.wrap .i64 (([t1].length : Int) - 1)).toNat) 0)]), r2.2.2.1))
          else none
         else none
        | .inr r2 =>
         (graph_Order_s1_j0 n t1 r2.2.2.1 r2.2.2.2.1 r2.2.2.2.2 r2.1 r2.2.1)
     else none
    else some (.inl ([], t2))
   else some (.inl ([], t2))
noncomputable def graph_Order (n : Nat) (t0 : L_api_Graph) (t1 : Int) : Option (List Int) :=
 (graph_Order_s1 n t1 t0).bind fun r0 =>
  match r0 with
   | .inl r1 =>
    some r1.1
   | .inr r1 =>
    some r1.1
noncomputable def graph_Order_l9_h : Sh := ⟨[(2, (.box (.val Y_api_Graph))), (5, (.box (.val (.arr 64 .bool)))), (6, (.box (.val (.arr 64 (.int .i64))))), (9, (.val (.int .i64)))], [(7, (.own (.int .i64))), (8, (.own (.int .i64)))], [7, 8, 10, 35, 36, 37, 38, 39, 40, 41, 42, 43, 44, 45, 46, 47, 48, 49, 50, 51, 52, 53, 54, 55, 56, 57, 58, 59, 60, 61, 62, 63, 64, 65, 66, 67, 68, 69], [⟨.exit 0, [(7, (.own (.int .i64))), (8, (.own (.int .i64)))]⟩, ⟨.goto 0, [(7, (.own (.int .i64))), (8, (.own (.int .i64)))]⟩]⟩
noncomputable def graph_Order_l9_F (n : Nat) : graph_Order_l9_h.Fn := fun x y => graph_Order_l9 n x.1 x.2.1 x.2.2.1 x.2.2.2.1 y.1 y.2.1
noncomputable def graph_Order_l9_k (n : Nat) : Cut := graph_Order_l9_h.cut (graph_Order_l9_F n)
noncomputable def graph_Order_s1_h : Sh := ⟨[(1, (.val (.int .i64))), (2, (.box (.val Y_api_Graph)))], [], [4, 5, 6, 7, 8, 9, 10, 11, 12, 13, 14, 15, 16, 17, 18, 19, 20, 21, 22, 23, 24, 25, 26, 27, 28, 29, 30, 31, 32, 33, 34, 35, 36, 37, 38, 39, 40, 41, 42, 43, 44, 45, 46, 47, 48, 49, 50, 51, 52, 53, 54, 55, 56, 57, 58, 59, 60, 61, 62, 63, 64, 65, 66, 67, 68, 69, 70, 71, 72, 73, 74, 75, 76, 77, 78, 79, 80, 81, 82, 83, 84], [⟨.ret, [(4, (.own (.int .i64)))]⟩, ⟨.normal, [(4, (.own (.int .i64)))]⟩]⟩
noncomputable def graph_Order_s1_F (n : Nat) : graph_Order_s1_h.Fn := fun x y => graph_Order_s1 n x.1 x.2.1
noncomputable def graph_Order_s1_k (n : Nat) : Cut := graph_Order_s1_h.cut (graph_Order_s1_F n)
noncomputable def graph_Order_s1_L : List (Lab graph_Order_s1_h) := [⟨0, [(5, (.box (.val (.arr 64 .bool)))), (6, (.box (.val (.arr 64 (.int .i64))))), (7, (.own (.int .i64))), (8, (.own (.int .i64)))], fun n x y => graph_Order_s1_j0 n x.1 x.2.1 y.1 y.2.1 y.2.2.1 y.2.2.2.1⟩]
noncomputable def graph_Order_e (n : Nat) : Env := mkEnv T_ A_ N_ [(33, graph_May_c n), (65, slices_Reverse_int_int_c n), (65, slices_Reverse_int_int_f65_c n)] [((0, 9, 0), graph_Order_l9_k n), ((1, 1, 0), graph_Order_s1_k n)] 85
noncomputable def graph_Order_c (n : Nat) : Con := mkCon [(.val Y_api_Graph), (.val (.int .i64))] [(.val (.list (.int .i64)))] (fun x => graph_Order n x.1 x.2.1)
theorem graph_Order_ok (n : Nat) : EnvOK Try.prog (graph_Order_e n) := mkEnv_ok tabs ⟨⟨graph_May_m n, fok33⟩, ⟨slices_Reverse_int_int_m n, fok65⟩, ⟨slices_Reverse_int_int_f65_m n, fok65⟩, trivial⟩
theorem graph_Order_l9_m (n : Nat) : CutMeets Try.prog (.loop (codeAt [1, 0, 1, 1, 1, 1, 1, 1, 1, 1, 0, 0, 0] (bodyOf Try.f44))) 85 (graph_Order_l9_k n) :=
 loop_ok graph_Order_l9_h graph_Order_l9_F (E := graph_Order_e) (l := fun n => []) mixed (fun _ => rfl) graph_Order_ok (by kernel_rfl) (fun _ => by kernel_rfl) (fun n => trivial) (fun _ _ => rfl) (fun n x y => by kernel_rfl) n
theorem graph_Order_s1_m (n : Nat) : CutMeets Try.prog (.scope (codeAt [1, 0] (bodyOf Try.f44))) 85 (graph_Order_s1_k n) :=
 scope_ok graph_Order_s1_h (graph_Order_s1_F n) graph_Order_s1_L (E := graph_Order_e) (l := fun n => [(Code.loop (codeAt [1, 0, 1, 1, 1, 1, 1, 1, 1, 1, 0, 0, 0] (bodyOf Try.f44)), graph_Order_l9_k n)]) mixed (fun _ => rfl) graph_Order_ok (by kernel_rfl) (fun _ => by kernel_rfl) (fun n => ⟨graph_Order_l9_m n, trivial⟩) ⟨⟨fun _ _ => rfl, by kernel_rfl, fun n => [(Code.loop (codeAt [1, 0, 1, 1, 1, 1, 1, 1, 1, 1, 0, 0, 0] (bodyOf Try.f44)), graph_Order_l9_k n)], fun _ => by kernel_rfl, fun n => ⟨graph_Order_l9_m n, trivial⟩, fun n x y => by kernel_rfl⟩, trivial⟩ n (fun x y => by kernel_rfl)
theorem graph_Order_m (n : Nat) : Meets Try.prog 44 (graph_Order_c n) :=
 con_meets (l := [(Code.scope (codeAt [1, 0] (bodyOf Try.f44)), graph_Order_s1_k n)]) mixed Try.func44 (by kernel_rfl) (graph_Order_ok n) (by kernel_rfl) (by kernel_rfl) (by kernel_rfl) ⟨graph_Order_s1_m n, trivial⟩ (fun x => by kernel_rfl)
/-! 85 math/bits.Mul32 -/
noncomputable def math_bits_Mul32 (n : Nat) (t0 : Int) (t1 : Int) : Option (Int × Int) :=
 some ((IntKind.wrap .u32 (Int.fdiv (IntKind.wrap .u64 ((IntKind.wrap .u64 t0) * (IntKind.wrap .u64 t1))) 4294967296)), (IntKind.wrap .u32 (IntKind.wrap .u64 ((IntKind.wrap .u64 t0) * (IntKind.wrap .u64 t1)))))
noncomputable def math_bits_Mul32_e (n : Nat) : Env := mkEnv T_ A_ N_ [] [] 17
noncomputable def math_bits_Mul32_c (n : Nat) : Con := mkCon [(.val (.int .u32)), (.val (.int .u32))] [(.val (.int .u32)), (.val (.int .u32))] (fun x => math_bits_Mul32 n x.1 x.2.1)
theorem math_bits_Mul32_ok (n : Nat) : EnvOK Try.prog (math_bits_Mul32_e n) := mkEnv_ok tabs trivial
theorem math_bits_Mul32_m (n : Nat) : Meets Try.prog 85 (math_bits_Mul32_c n) :=
 con_meets (l := []) mixed Try.func85 (by kernel_rfl) (math_bits_Mul32_ok n) (by kernel_rfl) (by kernel_rfl) (by kernel_rfl) trivial (fun x => by kernel_rfl)
/-! 86 math/bits.Mul64 -/
noncomputable def math_bits_Mul64 (n : Nat) (t0 : Int) (t1 : Int) : Option (Int × Int) :=
 some ((IntKind.wrap .u64 ((IntKind.wrap .u64 ((IntKind.wrap .u64 ((Int.fdiv t0 4294967296) * (Int.fdiv t1 4294967296))) + (Int.fdiv (IntKind.wrap .u64 ((IntKind.wrap .u64 ((Int.fdiv t0 4294967296) * (IntKind.wrap .u64 (((BitVec.toNat ((BitVec.ofInt 64 t1) &&& (BitVec.ofInt 64 4294967295))) : Nat) : Int)))) + (Int.fdiv (IntKind.wrap .u64 ((IntKind.wrap .u64 (((BitVec.toNat ((BitVec.ofInt 64 t0) &&& (BitVec.ofInt 64 4294967295))) : Nat) : Int)) * (IntKind.wrap .u64 (((BitVec.toNat ((BitVec.ofInt 64 t1) &&& (BitVec.ofInt 64 4294967295))) : Nat) : Int)))) 4294967296))) 4294967296))) + (Int.fdiv (IntKind.wrap .u64 ((IntKind.wrap .u64 (((BitVec.toNat ((BitVec.ofInt 64 (IntKind.wrap .u64 ((IntKind.wrap .u64 ((Int.fdiv t0 4294967296) * (IntKind.wrap .u64 (((BitVec.toNat ((BitVec.ofInt 64 t1) &&& (BitVec.ofInt 64 4294967295))) : Nat) : Int)))) + (Int.fdiv (IntKind.wrap .u64 ((IntKind.wrap .u64 (((BitVec.toNat ((BitVec.ofInt 64 t0) &&& (BitVec.ofInt 64 4294967295))) : Nat) : Int)) * (IntKind.wrap .u64 (((BitVec.toNat ((BitVec.ofInt 64 t1) &&& (BitVec.ofInt 64 4294967295))) : Nat) : Int)))) 4294967296)))) &&& (BitVec.ofInt 64 4294967295))) : Nat) : Int)) + (IntKind.wrap .u64 ((IntKind.wrap .u64 (((BitVec.toNat ((BitVec.ofInt 64 t0) &&& (BitVec.ofInt 64 4294967295))) : Nat) : Int)) * (Int.fdiv t1 4294967296))))) 4294967296))), (IntKind.wrap .u64 (t0 * t1)))
noncomputable def math_bits_Mul64_e (n : Nat) : Env := mkEnv T_ A_ N_ [] [] 51
noncomputable def math_bits_Mul64_c (n : Nat) : Con := mkCon [(.val (.int .u64)), (.val (.int .u64))] [(.val (.int .u64)), (.val (.int .u64))] (fun x => math_bits_Mul64 n x.1 x.2.1)
theorem math_bits_Mul64_ok (n : Nat) : EnvOK Try.prog (math_bits_Mul64_e n) := mkEnv_ok tabs trivial
theorem math_bits_Mul64_m (n : Nat) : Meets Try.prog 86 (math_bits_Mul64_c n) :=
 con_meets (l := []) mixed Try.func86 (by kernel_rfl) (math_bits_Mul64_ok n) (by kernel_rfl) (by kernel_rfl) (by kernel_rfl) trivial (fun x => by kernel_rfl)
/-! 66 math/bits.Mul -/
noncomputable def math_bits_Mul (n : Nat) (t0 : Int) (t1 : Int) : Option (Int × Int) :=
 (math_bits_Mul64 n t0 t1).bind fun r0 =>
  some r0
noncomputable def math_bits_Mul_e (n : Nat) : Env := mkEnv T_ A_ N_ [(85, math_bits_Mul32_c n), (86, math_bits_Mul64_c n)] [] 30
noncomputable def math_bits_Mul_c (n : Nat) : Con := mkCon [(.val (.int .u64)), (.val (.int .u64))] [(.val (.int .u64)), (.val (.int .u64))] (fun x => math_bits_Mul n x.1 x.2.1)
theorem math_bits_Mul_ok (n : Nat) : EnvOK Try.prog (math_bits_Mul_e n) := mkEnv_ok tabs ⟨⟨math_bits_Mul32_m n, fok85⟩, ⟨math_bits_Mul64_m n, fok86⟩, trivial⟩
theorem math_bits_Mul_m (n : Nat) : Meets Try.prog 66 (math_bits_Mul_c n) :=
 con_meets (l := []) mixed Try.func66 (by kernel_rfl) (math_bits_Mul_ok n) (by kernel_rfl) (by kernel_rfl) (by kernel_rfl) trivial (fun x => by kernel_rfl)
/-! 45 slices.Repeat[[]int,int] -/
noncomputable def slices_Repeat_int_int_l8 : Nat → (List Int) → Int → Option (List Int)
 | 0, _, _ => none
 | n + 1, t7, t8 =>
  if (decide (t8 < (t7.length : Int)) = true) then
   if ((0 ≤ t8) ∧ (t8 ≤ (t7.length : Int))) then
    if ((0 ≤ t8) ∧ (t8 ≤ (t7.length : Int))) then
     (slices_Repeat_int_int_l8 n ((t7.take t8.toNat) ++ (((t7.take t8.toNat).take (min ((t7.take t8.toNat).length) ((t7.drop t8.toNat).length))) ++ (t7.drop (t8.toNat + ((t7.take t8.toNat).take (min ((t7.take t8.toNat).length) ((t7.drop t8.toNat).length))).length)))) (IntKind.wrap .i64 (t8 + (((min ((t7.take t8.toNat).length) ((t7.drop t8.toNat).length)) : Nat) : Int))))
    else none
   else none
  else some t7
noncomputable def slices_Repeat_int_int_l8_h : Sh := ⟨[], [(7, (.own (.int .i64))), (8, (.val (.int .i64)))], [7, 8, 34, 35, 36, 37, 38, 39, 40, 41, 42, 43, 44, 45, 46], [⟨.exit 0, [(7, (.own (.int .i64)))]⟩]⟩
noncomputable def slices_Repeat_int_int_l8_F (n : Nat) : slices_Repeat_int_int_l8_h.Fn := fun x y => slices_Repeat_int_int_l8 n y.1 y.2.1
noncomputable def slices_Repeat_int_int_l8_k (n : Nat) : Cut := slices_Repeat_int_int_l8_h.cut (slices_Repeat_int_int_l8_F n)
noncomputable def slices_Repeat_int_int_e (n : Nat) : Env := mkEnv T_ A_ N_ [(66, math_bits_Mul_c n)] [((0, 8, 9), slices_Repeat_int_int_l8_k n)] 48
noncomputable def slices_Repeat_int_int (n : Nat) (t0 : (List Int)) (t1 : Int) : Option (List Int) := fnK (slices_Repeat_int_int_e n) [(.val (.list (.int .i64))), (.val (.int .i64))] [(.own (.int .i64))] (bodyOf Try.f45) (Try.f45).results.toList (finC [(.val (.list (.int .i64))), (.val (.int .i64))] [(.own (.int .i64))]) (t0, t1, ())
noncomputable def slices_Repeat_int_int_c (n : Nat) : Con := mkCon [(.val (.list (.int .i64))), (.val (.int .i64))] [(.own (.int .i64))] (fun x => slices_Repeat_int_int n x.1 x.2.1)
theorem slices_Repeat_int_int_ok (n : Nat) : EnvOK Try.prog (slices_Repeat_int_int_e n) := mkEnv_ok tabs ⟨⟨math_bits_Mul_m n, fok66⟩, trivial⟩
theorem slices_Repeat_int_int_l8_m (n : Nat) : CutMeets Try.prog (.loop (codeAt [1, 1, 1, 1, 1, 1, 0, 0, 0] (bodyOf Try.f45))) 48 (slices_Repeat_int_int_l8_k n) :=
 loop_ok slices_Repeat_int_int_l8_h slices_Repeat_int_int_l8_F (E := slices_Repeat_int_int_e) (l := fun n => []) mixed (fun _ => rfl) slices_Repeat_int_int_ok (by kernel_rfl) (fun _ => by kernel_rfl) (fun n => trivial) (fun _ _ => rfl) (fun n x y => by kernel_rfl) n
theorem slices_Repeat_int_int_m (n : Nat) : Meets Try.prog 45 (slices_Repeat_int_int_c n) :=
 con_meets (l := [(Code.loop (codeAt [1, 1, 1, 1, 1, 1, 0, 0, 0] (bodyOf Try.f45)), slices_Repeat_int_int_l8_k n)]) mixed Try.func45 (by kernel_rfl) (slices_Repeat_int_int_ok n) (by kernel_rfl) (by kernel_rfl) (by kernel_rfl) ⟨slices_Repeat_int_int_l8_m n, trivial⟩ (fun x => by kernel_rfl)
/-! 46 lockstep/dom.meet -/
noncomputable def dom_meet_l2 : Nat → (List Int) → (List Int) → Int → Int → Option Int
 | 0, _, _, _, _ => none
 | n + 1, t0, t1, t3, t2 =>
  if ((0 ≤ t2) ∧ (t2 < (t1.length : Int))) then
   if ((0 ≤ t3) ∧ (t3 < (t1.length : Int))) then
    if (decide ((t1.getD t2.toNat 0) > (t1.getD t3.toNat 0)) = true) then
     if ((0 ≤ t2) ∧ (t2 < (t0.length : Int))) then
      (dom_meet_l2 n t0 t1 t3 (t0.getD t2.toNat 0))
     else none
    else some t2
   else none
  else none
noncomputable def dom_meet_l4 : Nat → (List Int) → (List Int) → Int → Int → Option Int
 | 0, _, _, _, _ => none
 | n + 1, t0, t1, t2, t3 =>
  if ((0 ≤ t3) ∧ (t3 < (t1.length : Int))) then
   if ((0 ≤ t2) ∧ (t2 < (t1.length : Int))) then
    if (decide ((t1.getD t3.toNat 0) > (t1.getD t2.toNat 0)) = true) then
     if ((0 ≤ t3) ∧ (t3 < (t0.length : Int))) then
      (dom_meet_l4 n t0 t1 t2 (t0.getD t3.toNat 0))
     else none
    else some t3
   else none
  else none
noncomputable def dom_meet_l1 : Nat → (List Int) → (List Int) → Int → Int → Option Int
 | 0, _, _, _, _ => none
 | n + 1, t0, t1, t2, t3 =>
  if ((t2 != t3) = true) then
   (dom_meet_l2 n t0 t1 t3 t2).bind fun r0 =>
    (dom_meet_l4 n t0 t1 r0 t3).bind fun r1 =>
     (dom_meet_l1 n t0 t1 r0 r1)
  else some t2
noncomputable def dom_meet (n : Nat) (t0 : (List Int)) (t1 : (List Int)) (t2 : Int) (t3 : Int) : Option Int :=
 (dom_meet_l1 n t0 t1 t2 t3).bind fun r0 =>
  some r0
noncomputable def dom_meet_l2_h : Sh := ⟨[(0, (.val (.list (.int .i64)))), (1, (.val (.list (.int .i64)))), (3, (.val (.int .i64)))], [(2, (.val (.int .i64)))], [2, 12, 13, 14, 15, 16, 17, 18, 19, 20, 21, 22, 23, 24], [⟨.exit 2, [(2, (.val (.int .i64)))]⟩]⟩
noncomputable def dom_meet_l2_F (n : Nat) : dom_meet_l2_h.Fn := fun x y => dom_meet_l2 n x.1 x.2.1 x.2.2.1 y.1
noncomputable def dom_meet_l2_k (n : Nat) : Cut := dom_meet_l2_h.cut (dom_meet_l2_F n)
noncomputable def dom_meet_l4_h : Sh := ⟨[(0, (.val (.list (.int .i64)))), (1, (.val (.list (.int .i64)))), (2, (.val (.int .i64)))], [(3, (.val (.int .i64)))], [3, 25, 26, 27, 28, 29, 30, 31, 32, 33, 34, 35, 36, 37], [⟨.exit 4, [(3, (.val (.int .i64)))]⟩]⟩
noncomputable def dom_meet_l4_F (n : Nat) : dom_meet_l4_h.Fn := fun x y => dom_meet_l4 n x.1 x.2.1 x.2.2.1 y.1
noncomputable def dom_meet_l4_k (n : Nat) : Cut := dom_meet_l4_h.cut (dom_meet_l4_F n)
noncomputable def dom_meet_l1_h : Sh := ⟨[(0, (.val (.list (.int .i64)))), (1, (.val (.list (.int .i64))))], [(2, (.val (.int .i64))), (3, (.val (.int .i64)))], [2, 3, 9, 10, 11, 12, 13, 14, 15, 16, 17, 18, 19, 20, 21, 22, 23, 24, 25, 26, 27, 28, 29, 30, 31, 32, 33, 34, 35, 36, 37], [⟨.exit 0, [(2, (.val (.int .i64)))]⟩]⟩
noncomputable def dom_meet_l1_F (n : Nat) : dom_meet_l1_h.Fn := fun x y => dom_meet_l1 n x.1 x.2.1 y.1 y.2.1
noncomputable def dom_meet_l1_k (n : Nat) : Cut := dom_meet_l1_h.cut (dom_meet_l1_F n)
noncomputable def dom_meet_e (n : Nat) : Env := mkEnv T_ A_ N_ [] [((0, 2, 3), dom_meet_l2_k n), ((0, 4, 5), dom_meet_l4_k n), ((0, 1, 5), dom_meet_l1_k n)] 39
noncomputable def dom_meet_c (n : Nat) : Con := mkCon [(.val (.list (.int .i64))), (.val (.list (.int .i64))), (.val (.int .i64)), (.val (.int .i64))] [(.val (.int .i64))] (fun x => dom_meet n x.1 x.2.1 x.2.2.1 x.2.2.2.1)
theorem dom_meet_ok (n : Nat) : EnvOK Try.prog (dom_meet_e n) := mkEnv_ok tabs trivial
theorem dom_meet_l2_m (n : Nat) : CutMeets Try.prog (.loop (codeAt [1, 0, 0, 0, 1, 0, 0, 0, 0] (bodyOf Try.f46))) 39 (dom_meet_l2_k n) :=
 loop_ok dom_meet_l2_h dom_meet_l2_F (E := dom_meet_e) (l := fun n => []) mixed (fun _ => rfl) dom_meet_ok (by kernel_rfl) (fun _ => by kernel_rfl) (fun n => trivial) (fun _ _ => rfl) (fun n x y => by kernel_rfl) n
theorem dom_meet_l4_m (n : Nat) : CutMeets Try.prog (.loop (codeAt [1, 0, 0, 0, 1, 0, 1, 0, 0] (bodyOf Try.f46))) 39 (dom_meet_l4_k n) :=
 loop_ok dom_meet_l4_h dom_meet_l4_F (E := dom_meet_e) (l := fun n => []) mixed (fun _ => rfl) dom_meet_ok (by kernel_rfl) (fun _ => by kernel_rfl) (fun n => trivial) (fun _ _ => rfl) (fun n x y => by kernel_rfl) n
theorem dom_meet_l1_m (n : Nat) : CutMeets Try.prog (.loop (codeAt [1, 0, 0, 0] (bodyOf Try.f46))) 39 (dom_meet_l1_k n) :=
 loop_ok dom_meet_l1_h dom_meet_l1_F (E := dom_meet_e) (l := fun n => [(Code.loop (codeAt [1, 0, 0, 0, 1, 0, 0, 0, 0] (bodyOf Try.f46)), dom_meet_l2_k n), (Code.loop (codeAt [1, 0, 0, 0, 1, 0, 1, 0, 0] (bodyOf Try.f46)), dom_meet_l4_k n)]) mixed (fun _ => rfl) dom_meet_ok (by kernel_rfl) (fun _ => by kernel_rfl) (fun n => ⟨dom_meet_l2_m n, dom_meet_l4_m n, trivial⟩) (fun _ _ => rfl) (fun n x y => by kernel_rfl) n
theorem dom_meet_m (n : Nat) : Meets Try.prog 46 (dom_meet_c n) :=
 con_meets (l := [(Code.loop (codeAt [1, 0, 0, 0] (bodyOf Try.f46)), dom_meet_l1_k n)]) mixed Try.func46 (by kernel_rfl) (dom_meet_ok n) (by kernel_rfl) (by kernel_rfl) (by kernel_rfl) ⟨dom_meet_l1_m n, trivial⟩ (fun x => by kernel_rfl)
/-! 22 lockstep/dom.Tree -/
noncomputable def dom_Tree_l7 : Nat → Int → L_api_Graph → (List Int) → (List Int) → Int → (List Int) → (List Int) → Int → Option ((List Int) × ((List Int) × L_api_Graph))
 | 0, _, _, _, _, _, _, _, _ => none
 | n + 1, t1, t2, t5, t30, t31, t7, t8, t32 =>
  if (decide (t32 < t31) = true) then
   if ((0 ≤ t32) ∧ (t32 < (t30.length : Int))) then
    if ((0 ≤ (t30.getD t32.toNat 0)) ∧ ((t30.getD t32.toNat 0) < (t8.length : Int))) then
     (dom_Tree_l7 n t1 t2 t5 t30 t31 t7 (t8.set ((t30.getD t32.toNat 0).toNat) t32) (IntKind.wrap .i64 (t32 + 1)))
    else none
   else none
  else some (t7, t8, t2)
noncomputable def dom_Tree_l17 : Nat → Int → L_api_Graph → (List Int) → Int → (List Int) → Int → Int → (List Int) → Int → (List Int) → (List Int) → Int → Int → Option ((List Int) × ((List Int) × (Int × L_api_Graph)))
 | 0, _, _, _, _, _, _, _, _, _, _, _, _, _ => none
 | n + 1, t1, t2, t5, t12, t47, t48, t49, t57, t58, t7, t8, t13, t59 =>
  if (decide (t59 < t58) = true) then
   if ((0 ≤ t59) ∧ (t59 < (t57.length : Int))) then
    if ((0 ≤ (t57.getD t59.toNat 0)) ∧ ((t57.getD t59.toNat 0) < (t7.length : Int))) then
     if (((t7.getD ((t57.getD t59.toNat 0).toNat) 0) == (-2)) = true) then
      (dom_Tree_l17 n t1 t2 t5 t12 t47 t48 t49 t57 t58 t7 t8 t13 (IntKind.wrap .i64 (t59 + 1)))
     else if ((t13 == (-2)) = true) then
      (dom_Tree_l17 n t1 t2 t5 t12 t47 t48 t49 t57 t58 t7 t8 (t57.getD t59.toNat 0) (IntKind.wrap .i64 (t59 + 1)))
     else (dom_meet n t7 t8 t13 (t57.getD t59.toNat 0)).bind fun r0 =>
      (dom_Tree_l17 n t1 t2 t5 t12 t47 t48 t49 t57 t58 t7 t8 r0 (IntKind.wrap .i64 (t59 + 1)))
    else none
   else none
  else some (t7, t8, t13, t2)
noncomputable def dom_Tree_l13 : Nat → Int → L_api_Graph → (List Int) → (List Int) → Int → (List Int) → (List Int) → Int → Option (Sum ((List Int) × L_api_Graph) ((List Int) × ((List Int) × L_api_Graph)))
 | 0, _, _, _, _, _, _, _, _ => none
 | n + 1, t1, t2, t5, t47, t48, t7, t8, t49 =>
  if (decide (t49 < t48) = true) then
   if ((0 ≤ t49) ∧ (t49 < (t47.length : Int))) then
    if ((0 ≤ (t47.getD t49.toNat 0)) ∧ ((t47.getD t49.toNat 0) < (t2.2.1.length : Int))) then
     (dom_Tree_l17 n t1 t2 t5 (t47.getD t49.toNat 0) t47 t48 t49 (t2.2.1.getD ((t47.getD t49.toNat 0).toNat) []) ((t2.2.1.getD ((t47.getD t49.toNat 0).toNat) []).length : Int) t7 t8 (-2) 0).bind fun r0 =>
      if ((0 ≤ (t47.getD t49.toNat 0)) ∧ ((t47.getD t49.toNat 0) < (r0.1.length : Int))) then
       if (((r0.1.getD ((t47.getD t49.toNat 0).toNat) 0) != r0.2.2.1) = true) then
        if ((0 ≤ (t47.getD t49.toNat 0)) ∧ ((t47.getD t49.toNat 0) < (r0.1.length : Int))) then
         some (.inr ((r0.1.set ((t47.getD t49.toNat 0).toNat) r0.2.2.1), r0.2.1, r0.2.2.2))
        else none
       else (dom_Tree_l13 n t1 r0.2.2.2 t5 t47 t48 r0.1 r0.2.1 (IntKind.wrap .i64 (t49 + 1)))
      else none
    else none
   else none
  else some (.inl (t7, t2))
noncomputable def dom_Tree_s1_j0 : Nat → Int → L_api_Graph → (List Int) → (List Int) → (List Int) → Option (Sum ((List Int) × L_api_Graph) ((List Int) × L_api_Graph))
 | 0, _, _, _, _, _ => none
 | n + 1, t1, t2, t5, t7, t8 =>
  if (((0 : Int) ≤ 1) ∧ (1 ≤ (t5.length : Int))) then
   (dom_Tree_l13 n t1 t2 t5 (t5.drop 1) ((t5.drop 1).length : Int) t7 t8 0).bind fun r0 =>
    match r0 with
     | .inl r1 =>
      if ((0 ≤ t1) ∧ (t1 < (r1.1.length : Int))) then
       some (.inl ((r1.1.set t1.toNat (-1)), r1.2))
      else none
     | .inr r1 =>
      (dom_Tree_s1_j0 n t1 r1.2.2 t5 r1.1 r1.2.1)
  else none
noncomputable def dom_Tree_s1 (n : Nat) (t1 : Int) (t2 : L_api_Graph) : Option (Sum ((List Int) × L_api_Graph) ((List Int) × L_api_Graph)) :=
  (graph_Order n t2 t1).bind fun r0 =>
   if (((r0.length : Int) == 0) = true) then
    some (.inl ([], t2))
   else (slices_Repeat_int_int n [(-2)] (t2.1.length : Int)).bind fun r1 =>
    if ((0 ≤ (t2.1.length : Int)) ∧ (((t2.1.length : Int) ≤ (t2.1.length : Int)) ∧ ((t2.1.length : Int) ≤ 8589934592))) then
     (dom_Tree_l7 n t1 t2 r0 r0 (r0.length : Int) r1 (List.replicate ((t2.1.length : Int).toNat) 0) 0).bind fun r2 =>
      if ((0 ≤ t1) ∧ (t1 < (r2.1.length : Int))) then
       if (((0 : Int) ≤ 1) ∧ (1 ≤ (r0.length : Int))) then
        (dom_Tree_l13 n t1 r2.2.2 r0 (r0.drop 1) ((r0.drop 1).length : Int) (r2.1.set t1.toNat t1) r2.2.1 0).bind fun r3 =>
         match r3 with
          | .inl r4 =>
           if ((0 ≤ t1) ∧ (t1 < (r4.1.length : Int))) then
            some (.inl ((r4.1.set t1.toNat (-1)), r4.2))
           else none
          | .inr r4 =>
           (dom_Tree_s1_j0 n t1 r4.2.2 r0 r4.1 r4.2.1)
       else none
      else none
    else none
noncomputable def dom_Tree (n : Nat) (t0 : L_api_Graph) (t1 : Int) : Option (List Int) :=
 (dom_Tree_s1 n t1 t0).bind fun r0 =>
  match r0 with
   | .inl r1 =>
    some r1.1
   | .inr r1 =>
    some r1.1
noncomputable def dom_Tree_l7_h : Sh := ⟨[(1, (.val (.int .i64))), (2, (.box (.val Y_api_Graph))), (5, (.val (.list (.int .i64)))), (30, (.val (.list (.int .i64)))), (31, (.val (.int .i64)))], [(7, (.own (.int .i64))), (8, (.own (.int .i64))), (32, (.val (.int .i64)))], [7, 8, 9, 10, 32, 33, 34, 35, 36, 37, 38, 39, 40, 41], [⟨.exit 0, [(7, (.own (.int .i64))), (8, (.own (.int .i64)))]⟩]⟩
noncomputable def dom_Tree_l7_F (n : Nat) : dom_Tree_l7_h.Fn := fun x y => dom_Tree_l7 n x.1 x.2.1 x.2.2.1 x.2.2.2.1 x.2.2.2.2.1 y.1 y.2.1 y.2.2.1
noncomputable def dom_Tree_l7_k (n : Nat) : Cut := dom_Tree_l7_h.cut (dom_Tree_l7_F n)
noncomputable def dom_Tree_l17_h : Sh := ⟨[(1, (.val (.int .i64))), (2, (.box (.val Y_api_Graph))), (5, (.val (.list (.int .i64)))), (12, (.val (.int .i64))), (47, (.val (.list (.int .i64)))), (48, (.val (.int .i64))), (49, (.val (.int .i64))), (57, (.val (.list (.int .i64)))), (58, (.val (.int .i64)))], [(7, (.own (.int .i64))), (8, (.own (.int .i64))), (13, (.val (.int .i64))), (59, (.val (.int .i64)))], [7, 8, 13, 15, 59, 60, 61, 62, 63, 64, 65, 66, 67, 68, 69, 70, 71, 72, 73, 74, 75, 76, 77, 78], [⟨.exit 4, [(7, (.own (.int .i64))), (8, (.own (.int .i64))), (13, (.val (.int .i64)))]⟩]⟩
noncomputable def dom_Tree_l17_F (n : Nat) : dom_Tree_l17_h.Fn := fun x y => dom_Tree_l17 n x.1 x.2.1 x.2.2.1 x.2.2.2.1 x.2.2.2.2.1 x.2.2.2.2.2.1 x.2.2.2.2.2.2.1 x.2.2.2.2.2.2.2.1 x.2.2.2.2.2.2.2.2.1 y.1 y.2.1 y.2.2.1 y.2.2.2.1
noncomputable def dom_Tree_l17_k (n : Nat) : Cut := dom_Tree_l17_h.cut (dom_Tree_l17_F n)
noncomputable def dom_Tree_l13_h : Sh := ⟨[(1, (.val (.int .i64))), (2, (.box (.val Y_api_Graph))), (5, (.val (.list (.int .i64)))), (47, (.val (.list (.int .i64)))), (48, (.val (.int .i64)))], [(7, (.own (.int .i64))), (8, (.own (.int .i64))), (49, (.val (.int .i64)))], [7, 8, 12, 13, 15, 49, 50, 51, 52, 53, 54, 55, 56, 57, 58, 59, 60, 61, 62, 63, 64, 65, 66, 67, 68, 69, 70, 71, 72, 73, 74, 75, 76, 77, 78, 79, 80, 81, 82, 83, 84, 85, 86, 87, 88, 89], [⟨.exit 2, [(7, (.own (.int .i64)))]⟩, ⟨.goto 0, [(7, (.own (.int .i64))), (8, (.own (.int .i64)))]⟩]⟩
noncomputable def dom_Tree_l13_F (n : Nat) : dom_Tree_l13_h.Fn := fun x y => dom_Tree_l13 n x.1 x.2.1 x.2.2.1 x.2.2.2.1 x.2.2.2.2.1 y.1 y.2.1 y.2.2.1
noncomputable def dom_Tree_l13_k (n : Nat) : Cut := dom_Tree_l13_h.cut (dom_Tree_l13_F n)
noncomputable def dom_Tree_s1_h : Sh := ⟨[(1, (.val (.int .i64))), (2, (.box (.val Y_api_Graph)))], [], [4, 5, 6, 7, 8, 9, 10, 12, 13, 15, 16, 17, 18, 19, 20, 21, 22, 23, 24, 25, 26, 27, 28, 29, 30, 31, 32, 33, 34, 35, 36, 37, 38, 39, 40, 41, 42, 43, 44, 45, 46, 47, 48, 49, 50, 51, 52, 53, 54, 55, 56, 57, 58, 59, 60, 61, 62, 63, 64, 65, 66, 67, 68, 69, 70, 71, 72, 73, 74, 75, 76, 77, 78, 79, 80, 81, 82, 83, 84, 85, 86, 87, 88, 89, 90, 91, 92, 93], [⟨.ret, [(4, (.own (.int .i64)))]⟩, ⟨.normal, [(4, (.own (.int .i64)))]⟩]⟩
noncomputable def dom_Tree_s1_F (n : Nat) : dom_Tree_s1_h.Fn := fun x y => dom_Tree_s1 n x.1 x.2.1
noncomputable def dom_Tree_s1_k (n : Nat) : Cut := dom_Tree_s1_h.cut (dom_Tree_s1_F n)
noncomputable def dom_Tree_s1_L : List (Lab dom_Tree_s1_h) := [⟨0, [(5, (.val (.list (.int .i64)))), (7, (.own (.int .i64))), (8, (.own (.int .i64)))], fun n x y => dom_Tree_s1_j0 n x.1 x.2.1 y.1 y.2.1 y.2.2.1⟩]
noncomputable def dom_Tree_e (n : Nat) : Env := mkEnv T_ A_ N_ [(44, graph_Order_c n), (45, slices_Repeat_int_int_c n), (46, dom_meet_c n)] [((0, 7, 10), dom_Tree_l7_k n), ((0, 17, 23), dom_Tree_l17_k n), ((0, 13, 26), dom_Tree_l13_k n), ((1, 1, 0), dom_Tree_s1_k n)] 94
noncomputable def dom_Tree_c (n : Nat) : Con := mkCon [(.val Y_api_Graph), (.val (.int .i64))] [(.val (.list (.int .i64)))] (fun x => dom_Tree n x.1 x.2.1)
theorem dom_Tree_ok (n : Nat) : EnvOK Try.prog (dom_Tree_e n) := mkEnv_ok tabs ⟨⟨graph_Order_m n, fok44⟩, ⟨slices_Repeat_int_int_m n, fok45⟩, ⟨dom_meet_m n, fok46⟩, trivial⟩
theorem dom_Tree_l7_m (n : Nat) : CutMeets Try.prog (.loop (codeAt [1, 0, 1, 1, 1, 1, 0, 1, 0, 0] (bodyOf Try.f22))) 94 (dom_Tree_l7_k n) :=
 loop_ok dom_Tree_l7_h dom_Tree_l7_F (E := dom_Tree_e) (l := fun n => []) mixed (fun _ => rfl) dom_Tree_ok (by kernel_rfl) (fun _ => by kernel_rfl) (fun n => trivial) (fun _ _ => rfl) (fun n x y => by kernel_rfl) n
theorem dom_Tree_l17_m (n : Nat) : CutMeets Try.prog (.loop (codeAt [1, 0, 1, 1, 1, 1, 1, 1, 1, 0, 1, 0, 0, 1, 1, 0, 0, 1, 1, 0, 1, 0, 0] (bodyOf Try.f22))) 94 (dom_Tree_l17_k n) :=
 loop_ok dom_Tree_l17_h dom_Tree_l17_F (E := dom_Tree_e) (l := fun n => []) mixed (fun _ => rfl) dom_Tree_ok (by kernel_rfl) (fun _ => by kernel_rfl) (fun n => trivial) (fun _ _ => rfl) (fun n x y => by kernel_rfl) n
theorem dom_Tree_l13_m (n : Nat) : CutMeets Try.prog (.loop (codeAt [1, 0, 1, 1, 1, 1, 1, 1, 1, 0, 1, 0, 0] (bodyOf Try.f22))) 94 (dom_Tree_l13_k n) :=
 loop_ok dom_Tree_l13_h dom_Tree_l13_F (E := dom_Tree_e) (l := fun n => [(Code.loop (codeAt [1, 0, 1, 1, 1, 1, 1, 1, 1, 0, 1, 0, 0, 1, 1, 0, 0, 1, 1, 0, 1, 0, 0] (bodyOf Try.f22)), dom_Tree_l17_k n)]) mixed (fun _ => rfl) dom_Tree_ok (by kernel_rfl) (fun _ => by kernel_rfl) (fun n => ⟨dom_Tree_l17_m n, trivial⟩) (fun _ _ => rfl) (fun n x y => by kernel_rfl) n
theorem dom_Tree_s1_m (n : Nat) : CutMeets Try.prog (.scope (codeAt [1, 0] (bodyOf Try.f22))) 94 (dom_Tree_s1_k n) :=
 scope_ok dom_Tree_s1_h (dom_Tree_s1_F n) dom_Tree_s1_L (E := dom_Tree_e) (l := fun n => [(Code.loop (codeAt [1, 0, 1, 1, 1, 1, 0, 1, 0, 0] (bodyOf Try.f22)), dom_Tree_l7_k n), (Code.loop (codeAt [1, 0, 1, 1, 1, 1, 1, 1, 1, 0, 1, 0, 0] (bodyOf Try.f22)), dom_Tree_l13_k n)]) mixed (fun _ => rfl) dom_Tree_ok (by kernel_rfl) (fun _ => by kernel_rfl) (fun n => ⟨dom_Tree_l7_m n, dom_Tree_l13_m n, trivial⟩) ⟨⟨fun _ _ => rfl, by kernel_rfl, fun n => [(Code.loop (codeAt [1, 0, 1, 1, 1, 1, 1, 1, 1, 0, 1, 0, 0] (bodyOf Try.f22)), dom_Tree_l13_k n)], fun _ => by kernel_rfl, fun n => ⟨dom_Tree_l13_m n, trivial⟩, fun n x y => by kernel_rfl⟩, trivial⟩ n (fun x y => by kernel_rfl)
theorem dom_Tree_m (n : Nat) : Meets Try.prog 22 (dom_Tree_c n) :=
 con_meets (l := [(Code.scope (codeAt [1, 0] (bodyOf Try.f22)), dom_Tree_s1_k n)]) mixed Try.func22 (by kernel_rfl) (dom_Tree_ok n) (by kernel_rfl) (by kernel_rfl) (by kernel_rfl) ⟨dom_Tree_s1_m n, trivial⟩ (fun x => by kernel_rfl)
/-! 15 lockstep/pdom.Tree -/
noncomputable def pdom_Tree (n : Nat) (t0 : L_api_Graph) : Option (List Int) :=
 (pdom_Exit n t0).bind fun r0 =>
  if ((r0.2 != 0) = true) then
   some []
  else (graph_Turned n r0.1).bind fun r1 =>
   (dom_Tree n r1 (t0.1.length : Int)).bind fun r2 =>
    some r2
noncomputable def pdom_Tree_e (n : Nat) : Env := mkEnv T_ A_ N_ [(14, pdom_Exit_c n), (37, graph_Turned_c n), (22, dom_Tree_c n)] [] 18
noncomputable def pdom_Tree_c (n : Nat) : Con := mkCon [(.val Y_api_Graph)] [(.val (.list (.int .i64)))] (fun x => pdom_Tree n x.1)
theorem pdom_Tree_ok (n : Nat) : EnvOK Try.prog (pdom_Tree_e n) := mkEnv_ok tabs ⟨⟨pdom_Exit_m n, fok14⟩, ⟨graph_Turned_m n, fok37⟩, ⟨dom_Tree_m n, fok22⟩, trivial⟩
theorem pdom_Tree_m (n : Nat) : Meets Try.prog 15 (pdom_Tree_c n) :=
 con_meets (l := []) mixed Try.func15 (by kernel_rfl) (pdom_Tree_ok n) (by kernel_rfl) (by kernel_rfl) (by kernel_rfl) trivial (fun x => by kernel_rfl)
/-! 16 lockstep/dep.up -/
noncomputable def dep_up_s1_j0 : Nat → (List Int) → Int → Int → (List L_api_Dep) → Int → Option (Sum (List L_api_Dep) (List L_api_Dep))
 | 0, _, _, _, _, _ => none
 | n + 1, t0, t1, t2, t7, t8 =>
  if ((0 ≤ t1) ∧ (t1 < (t0.length : Int))) then
   if ((t8 != (t0.getD t1.toNat 0)) = true) then
    if (decide (t8 ≥ 0) = true) then
     if ((t7 ++ [(t8, t1, t2, ())]).length ≤ Ev.most) then
      if ((0 ≤ t8) ∧ (t8 < (t0.length : Int))) then
       (dep_up_s1_j0 n t0 t1 t2 (t7 ++ [(t8, t1, t2, ())]) (t0.getD t8.toNat 0))
      else none
     else none
    else some (.inl t7)
   else some (.inl t7)
  else none
noncomputable def dep_up_s1 (n : Nat) (t0 : (List Int)) (t1 : Int) (t2 : Int) : Option (Sum (List L_api_Dep) (List L_api_Dep)) :=
  if ((0 ≤ t1) ∧ (t1 < (t0.length : Int))) then
   if ((t2 != (t0.getD t1.toNat 0)) = true) then
    if (decide (t2 ≥ 0) = true) then
     if ((0 ≤ t2) ∧ (t2 < (t0.length : Int))) then
      (dep_up_s1_j0 n t0 t1 t2 ([(t2, t1, t2, ())]) (t0.getD t2.toNat 0))
     else none
    else some (.inl [])
   else some (.inl [])
  else none
noncomputable def dep_up (n : Nat) (t0 : (List Int)) (t1 : Int) (t2 : Int) : Option (List L_api_Dep) :=
 (dep_up_s1 n t0 t1 t2).bind fun r0 =>
  match r0 with
   | .inl r1 =>
    some r1
   | .inr r1 =>
    some r1
noncomputable def dep_up_s1_h : Sh := ⟨[(0, (.val (.list (.int .i64)))), (1, (.val (.int .i64))), (2, (.val (.int .i64)))], [], [6, 7, 8, 9, 10, 11, 12, 13, 14, 15, 16, 17, 18, 19, 20, 21, 22, 23, 24, 25, 26, 27, 28, 29, 30, 31], [⟨.ret, [(6, (.own Y_api_Dep))]⟩, ⟨.normal, [(6, (.own Y_api_Dep))]⟩]⟩
noncomputable def dep_up_s1_F (n : Nat) : dep_up_s1_h.Fn := fun x y => dep_up_s1 n x.1 x.2.1 x.2.2.1
noncomputable def dep_up_s1_k (n : Nat) : Cut := dep_up_s1_h.cut (dep_up_s1_F n)
noncomputable def dep_up_s1_L : List (Lab dep_up_s1_h) := [⟨0, [(7, (.own Y_api_Dep)), (8, (.val (.int .i64)))], fun n x y => dep_up_s1_j0 n x.1 x.2.1 x.2.2.1 y.1 y.2.1⟩]
noncomputable def dep_up_e (n : Nat) : Env := mkEnv T_ A_ N_ [] [((1, 1, 0), dep_up_s1_k n)] 32
noncomputable def dep_up_c (n : Nat) : Con := mkCon [(.val (.list (.int .i64))), (.val (.int .i64)), (.val (.int .i64))] [(.val (.list Y_api_Dep))] (fun x => dep_up n x.1 x.2.1 x.2.2.1)
theorem dep_up_ok (n : Nat) : EnvOK Try.prog (dep_up_e n) := mkEnv_ok tabs trivial
theorem dep_up_s1_m (n : Nat) : CutMeets Try.prog (.scope (codeAt [1, 0] (bodyOf Try.f16))) 32 (dep_up_s1_k n) :=
 scope_ok dep_up_s1_h (dep_up_s1_F n) dep_up_s1_L (E := dep_up_e) (l := fun n => []) mixed (fun _ => rfl) dep_up_ok (by kernel_rfl) (fun _ => by kernel_rfl) (fun n => trivial) ⟨⟨fun _ _ => rfl, by kernel_rfl, fun n => [], fun _ => by kernel_rfl, fun n => trivial, fun n x y => by kernel_rfl⟩, trivial⟩ n (fun x y => by kernel_rfl)
theorem dep_up_m (n : Nat) : Meets Try.prog 16 (dep_up_c n) :=
 con_meets (l := [(Code.scope (codeAt [1, 0] (bodyOf Try.f16)), dep_up_s1_k n)]) mixed Try.func16 (by kernel_rfl) (dep_up_ok n) (by kernel_rfl) (by kernel_rfl) (by kernel_rfl) ⟨dep_up_s1_m n, trivial⟩ (fun x => by kernel_rfl)
/-! 64 cmp.isNaN[int] -/
noncomputable def cmp_isNaN_int (n : Nat) (t0 : Int) : Option Bool :=
 some (t0 != t0)
noncomputable def cmp_isNaN_int_e (n : Nat) : Env := mkEnv T_ A_ N_ [] [] 6
noncomputable def cmp_isNaN_int_c (n : Nat) : Con := mkCon [(.val (.int .i64))] [(.val .bool)] (fun x => cmp_isNaN_int n x.1)
theorem cmp_isNaN_int_ok (n : Nat) : EnvOK Try.prog (cmp_isNaN_int_e n) := mkEnv_ok tabs trivial
theorem cmp_isNaN_int_m (n : Nat) : Meets Try.prog 64 (cmp_isNaN_int_c n) :=
 con_meets (l := []) mixed Try.func64 (by kernel_rfl) (cmp_isNaN_int_ok n) (by kernel_rfl) (by kernel_rfl) (by kernel_rfl) trivial (fun x => by kernel_rfl)
/-! 41 cmp.Compare[int] -/
noncomputable def cmp_Compare_int (n : Nat) (t0 : Int) (t1 : Int) : Option Int :=
 (cmp_isNaN_int n t0).bind fun r0 =>
  (cmp_isNaN_int n t1).bind fun r1 =>
   if (r0 = true) then
    if (r1 = true) then
     some 0
    else some (-1)
   else if (r1 = true) then
    some 1
   else if (decide (t0 < t1) = true) then
    some (-1)
   else if (decide (t0 > t1) = true) then
    some 1
   else some 0
noncomputable def cmp_Compare_int_e (n : Nat) : Env := mkEnv T_ A_ N_ [(64, cmp_isNaN_int_c n)] [] 20
noncomputable def cmp_Compare_int_c (n : Nat) : Con := mkCon [(.val (.int .i64)), (.val (.int .i64))] [(.val (.int .i64))] (fun x => cmp_Compare_int n x.1 x.2.1)
theorem cmp_Compare_int_ok (n : Nat) : EnvOK Try.prog (cmp_Compare_int_e n) := mkEnv_ok tabs ⟨⟨cmp_isNaN_int_m n, fok64⟩, trivial⟩
theorem cmp_Compare_int_m (n : Nat) : Meets Try.prog 41 (cmp_Compare_int_c n) :=
 con_meets (l := []) mixed Try.func41 (by kernel_rfl) (cmp_Compare_int_ok n) (by kernel_rfl) (by kernel_rfl) (by kernel_rfl) trivial (fun x => by kernel_rfl)
/-! 40 cmp.Or[int] -/
noncomputable def cmp_Or_int_l3 : Nat → Int → (List Int) → Int → Int → Option (Sum Unit Int)
 | 0, _, _, _, _ => none
 | n + 1, t3, t6, t7, t8 =>
  if (decide (t8 < t7) = true) then
   if ((0 ≤ t8) ∧ (t8 < (t6.length : Int))) then
    if (((t6.getD t8.toNat 0) != t3) = true) then
     some (.inr (t6.getD t8.toNat 0))
    else (cmp_Or_int_l3 n t3 t6 t7 (IntKind.wrap .i64 (t8 + 1)))
   else none
  else some (.inl ())
noncomputable def cmp_Or_int (n : Nat) (t0 : (List Int)) : Option Int :=
 (cmp_Or_int_l3 n 0 t0 (t0.length : Int) 0).bind fun r0 =>
  match r0 with
   | .inl r1 =>
    some 0
   | .inr r1 =>
    some r1
noncomputable def cmp_Or_int_l3_h : Sh := ⟨[(3, (.val (.int .i64))), (6, (.val (.list (.int .i64)))), (7, (.val (.int .i64)))], [(8, (.val (.int .i64)))], [2, 5, 8, 9, 10, 11, 12, 13, 14, 15, 16], [⟨.exit 0, []⟩, ⟨.ret, [(2, (.val (.int .i64)))]⟩]⟩
noncomputable def cmp_Or_int_l3_F (n : Nat) : cmp_Or_int_l3_h.Fn := fun x y => cmp_Or_int_l3 n x.1 x.2.1 x.2.2.1 y.1
noncomputable def cmp_Or_int_l3_k (n : Nat) : Cut := cmp_Or_int_l3_h.cut (cmp_Or_int_l3_F n)
noncomputable def cmp_Or_int_e (n : Nat) : Env := mkEnv T_ A_ N_ [] [((0, 3, 7), cmp_Or_int_l3_k n)] 18
noncomputable def cmp_Or_int_c (n : Nat) : Con := mkCon [(.val (.list (.int .i64)))] [(.val (.int .i64))] (fun x => cmp_Or_int n x.1)
theorem cmp_Or_int_ok (n : Nat) : EnvOK Try.prog (cmp_Or_int_e n) := mkEnv_ok tabs trivial
theorem cmp_Or_int_l3_m (n : Nat) : CutMeets Try.prog (.loop (codeAt [1, 1, 0, 1, 0, 0] (bodyOf Try.f40))) 18 (cmp_Or_int_l3_k n) :=
 loop_ok cmp_Or_int_l3_h cmp_Or_int_l3_F (E := cmp_Or_int_e) (l := fun n => []) mixed (fun _ => rfl) cmp_Or_int_ok (by kernel_rfl) (fun _ => by kernel_rfl) (fun n => trivial) (fun _ _ => rfl) (fun n x y => by kernel_rfl) n
theorem cmp_Or_int_m (n : Nat) : Meets Try.prog 40 (cmp_Or_int_c n) :=
 con_meets (l := [(Code.loop (codeAt [1, 1, 0, 1, 0, 0] (bodyOf Try.f40)), cmp_Or_int_l3_k n)]) mixed Try.func40 (by kernel_rfl) (cmp_Or_int_ok n) (by kernel_rfl) (by kernel_rfl) (by kernel_rfl) ⟨cmp_Or_int_l3_m n, trivial⟩ (fun x => by kernel_rfl)
/-! 18 lockstep/dep.compare -/
noncomputable def dep_compare (n : Nat) (t0 : L_api_Dep) (t1 : L_api_Dep) : Option Int :=
 (cmp_Compare_int n t0.1 t1.1).bind fun r0 =>
  (cmp_Compare_int n t0.2.1 t1.2.1).bind fun r1 =>
   (cmp_Compare_int n t0.2.2.1 t1.2.2.1).bind fun r2 =>
    (cmp_Or_int n ([r0, r1, r2])).bind fun r3 =>
     some r3
noncomputable def dep_compare_e (n : Nat) : Env := mkEnv T_ A_ N_ [(41, cmp_Compare_int_c n), (40, cmp_Or_int_c n)] [] 22
noncomputable def dep_compare_c (n : Nat) : Con := mkCon [(.val Y_api_Dep), (.val Y_api_Dep)] [(.val (.int .i64))] (fun x => dep_compare n x.1 x.2.1)
theorem dep_compare_ok (n : Nat) : EnvOK Try.prog (dep_compare_e n) := mkEnv_ok tabs ⟨⟨cmp_Compare_int_m n, fok41⟩, ⟨cmp_Or_int_m n, fok40⟩, trivial⟩
theorem dep_compare_m (n : Nat) : Meets Try.prog 18 (dep_compare_c n) :=
 con_meets (l := []) mixed Try.func18 (by kernel_rfl) (dep_compare_ok n) (by kernel_rfl) (by kernel_rfl) (by kernel_rfl) trivial (fun x => by kernel_rfl)
/- slices_SortFunc_api_Dep_api_Dep_dep_compare : Nat → (List L_api_Dep) → Unit → Option (List L_api_Dep) is given by hand: slices_SortFunc_api_Dep_api_Dep_dep_compare, slices_SortFunc_api_Dep_api_Dep_dep_compare_c, slices_SortFunc_api_Dep_api_Dep_dep_compare_m -/
/- slices_SortFunc_api_Dep_api_Dep_dep_compare_f17 : Nat → (List L_api_Dep) → Unit → Option Unit is given by hand: slices_SortFunc_api_Dep_api_Dep_dep_compare_f17, slices_SortFunc_api_Dep_api_Dep_dep_compare_f17_c, slices_SortFunc_api_Dep_api_Dep_dep_compare_f17_m -/
/-! 7 lockstep/dep.All -/
noncomputable def dep_All_l11 : Nat → L_api_Graph → (List Int) → Int → (List (List Int)) → Int → Int → (List Int) → Int → (List L_api_Dep) → Int → Option ((List L_api_Dep) × L_api_Graph)
 | 0, _, _, _, _, _, _, _, _, _, _ => none
 | n + 1, t3, t5, t7, t21, t22, t23, t35, t36, t6, t37 =>
  if (decide (t37 < t36) = true) then
   if ((0 ≤ t37) ∧ (t37 < (t35.length : Int))) then
    (dep_up n t5 t7 (t35.getD t37.toNat 0)).bind fun r0 =>
     if ((t6 ++ r0).length ≤ Ev.most) then
      (dep_All_l11 n t3 t5 t7 t21 t22 t23 t35 t36 (t6 ++ r0) (IntKind.wrap .i64 (t37 + 1)))
     else none
   else none
  else some (t6, t3)
noncomputable def dep_All_l7 : Nat → L_api_Graph → (List Int) → (List (List Int)) → Int → (List L_api_Dep) → Int → Option ((List L_api_Dep) × L_api_Graph)
 | 0, _, _, _, _, _, _ => none
 | n + 1, t3, t5, t21, t22, t6, t23 =>
  if (decide (t23 < t22) = true) then
   if ((0 ≤ t23) ∧ (t23 < (t21.length : Int))) then
    if ((0 ≤ t23) ∧ (t23 < (t3.1.length : Int))) then
     if (decide (((t3.1.getD t23.toNat []).length : Int) < 2) = true) then
      (dep_All_l7 n t3 t5 t21 t22 t6 (IntKind.wrap .i64 (t23 + 1)))
     else (dep_All_l11 n t3 t5 t23 t21 t22 t23 (t21.getD t23.toNat []) ((t21.getD t23.toNat []).length : Int) t6 0).bind fun r0 =>
      (dep_All_l7 n r0.2 t5 t21 t22 r0.1 (IntKind.wrap .i64 (t23 + 1)))
    else none
   else none
  else some (t6, t3)
noncomputable def dep_All (n : Nat) (t0 : L_api_Graph) : Option (List L_api_Dep) :=
 (pdom_Exit n t0).bind fun r0 =>
  if ((r0.2 != 0) = true) then
   some []
  else (pdom_Tree n t0).bind fun r1 =>
   (dep_All_l7 n r0.1 r1 t0.1 (t0.1.length : Int) [] 0).bind fun r2 =>
    if (0 < r2.1.length) then
     if (0 < r2.1.length) then
      (slices_SortFunc_api_Dep_api_Dep_dep_compare n r2.1 ()).bind fun r3 =>
       some r3
     else none
    else (slices_SortFunc_api_Dep_api_Dep_dep_compare_f17 n r2.1 ()).bind fun r3 =>
     some r2.1
noncomputable def dep_All_l11_h : Sh := ⟨[(3, (.box (.val Y_api_Graph))), (5, (.val (.list (.int .i64)))), (7, (.val (.int .i64))), (21, (.val (.list (.list (.int .i64))))), (22, (.val (.int .i64))), (23, (.val (.int .i64))), (35, (.val (.list (.int .i64)))), (36, (.val (.int .i64)))], [(6, (.own Y_api_Dep)), (37, (.val (.int .i64)))], [6, 10, 37, 38, 39, 40, 41, 42, 43, 44, 45, 46, 47], [⟨.exit 2, [(6, (.own Y_api_Dep))]⟩]⟩
noncomputable def dep_All_l11_F (n : Nat) : dep_All_l11_h.Fn := fun x y => dep_All_l11 n x.1 x.2.1 x.2.2.1 x.2.2.2.1 x.2.2.2.2.1 x.2.2.2.2.2.1 x.2.2.2.2.2.2.1 x.2.2.2.2.2.2.2.1 y.1 y.2.1
noncomputable def dep_All_l11_k (n : Nat) : Cut := dep_All_l11_h.cut (dep_All_l11_F n)
noncomputable def dep_All_l7_h : Sh := ⟨[(3, (.box (.val Y_api_Graph))), (5, (.val (.list (.int .i64)))), (21, (.val (.list (.list (.int .i64))))), (22, (.val (.int .i64)))], [(6, (.own Y_api_Dep)), (23, (.val (.int .i64)))], [6, 7, 8, 10, 23, 24, 25, 26, 27, 28, 29, 30, 31, 32, 33, 34, 35, 36, 37, 38, 39, 40, 41, 42, 43, 44, 45, 46, 47, 48], [⟨.exit 0, [(6, (.own Y_api_Dep))]⟩]⟩
noncomputable def dep_All_l7_F (n : Nat) : dep_All_l7_h.Fn := fun x y => dep_All_l7 n x.1 x.2.1 x.2.2.1 x.2.2.2.1 y.1 y.2.1
noncomputable def dep_All_l7_k (n : Nat) : Cut := dep_All_l7_h.cut (dep_All_l7_F n)
noncomputable def dep_All_e (n : Nat) : Env := mkEnv T_ A_ N_ [(14, pdom_Exit_c n), (15, pdom_Tree_c n), (16, dep_up_c n), (18, dep_compare_c n), (17, slices_SortFunc_api_Dep_api_Dep_dep_compare_c n), (17, slices_SortFunc_api_Dep_api_Dep_dep_compare_f17_c n)] [((0, 11, 14), dep_All_l11_k n), ((0, 7, 15), dep_All_l7_k n)] 52
noncomputable def dep_All_c (n : Nat) : Con := mkCon [(.val Y_api_Graph)] [(.val (.list Y_api_Dep))] (fun x => dep_All n x.1)
theorem dep_All_ok (n : Nat) : EnvOK Try.prog (dep_All_e n) := mkEnv_ok tabs ⟨⟨pdom_Exit_m n, fok14⟩, ⟨pdom_Tree_m n, fok15⟩, ⟨dep_up_m n, fok16⟩, ⟨dep_compare_m n, fok18⟩, ⟨slices_SortFunc_api_Dep_api_Dep_dep_compare_m n, fok17⟩, ⟨slices_SortFunc_api_Dep_api_Dep_dep_compare_f17_m n, fok17⟩, trivial⟩
theorem dep_All_l11_m (n : Nat) : CutMeets Try.prog (.loop (codeAt [1, 1, 1, 1, 1, 0, 1, 0, 0, 1, 1, 0, 0, 1, 1, 1, 0, 0] (bodyOf Try.f7))) 52 (dep_All_l11_k n) :=
 loop_ok dep_All_l11_h dep_All_l11_F (E := dep_All_e) (l := fun n => []) mixed (fun _ => rfl) dep_All_ok (by kernel_rfl) (fun _ => by kernel_rfl) (fun n => trivial) (fun _ _ => rfl) (fun n x y => by kernel_rfl) n
theorem dep_All_l7_m (n : Nat) : CutMeets Try.prog (.loop (codeAt [1, 1, 1, 1, 1, 0, 1, 0, 0] (bodyOf Try.f7))) 52 (dep_All_l7_k n) :=
 loop_ok dep_All_l7_h dep_All_l7_F (E := dep_All_e) (l := fun n => [(Code.loop (codeAt [1, 1, 1, 1, 1, 0, 1, 0, 0, 1, 1, 0, 0, 1, 1, 1, 0, 0] (bodyOf Try.f7)), dep_All_l11_k n)]) mixed (fun _ => rfl) dep_All_ok (by kernel_rfl) (fun _ => by kernel_rfl) (fun n => ⟨dep_All_l11_m n, trivial⟩) (fun _ _ => rfl) (fun n x y => by kernel_rfl) n
theorem dep_All_m (n : Nat) : Meets Try.prog 7 (dep_All_c n) :=
 con_meets (l := [(Code.loop (codeAt [1, 1, 1, 1, 1, 0, 1, 0, 0] (bodyOf Try.f7)), dep_All_l7_k n)]) mixed Try.func7 (by kernel_rfl) (dep_All_ok n) (by kernel_rfl) (by kernel_rfl) (by kernel_rfl) ⟨dep_All_l7_m n, trivial⟩ (fun x => by kernel_rfl)
/-! 70 lockstep/dom.depth -/
noncomputable def dom_depth_l2 : Nat → (List Int) → Int → Int → Int → Option (Sum Unit Int)
 | 0, _, _, _, _ => none
 | n + 1, t0, t7, t1, t8 =>
  if (decide (t8 < t7) = true) then
   if (decide (t1 < 0) = false) then
    if (decide (t1 ≥ (t0.length : Int)) = true) then
     some (.inr (-1))
    else if ((0 ≤ t1) ∧ (t1 < (t0.length : Int))) then
     if (((t0.getD t1.toNat 0) == (-1)) = true) then
      some (.inr t8)
     else if ((0 ≤ t1) ∧ (t1 < (t0.length : Int))) then
      (dom_depth_l2 n t0 t7 (t0.getD t1.toNat 0) (IntKind.wrap .i64 (t8 + 1)))
     else none
    else none
   else some (.inr (-1))
  else some (.inl ())
noncomputable def dom_depth (n : Nat) (t0 : (List Int)) (t1 : Int) : Option Int :=
 (dom_depth_l2 n t0 (t0.length : Int) t1 0).bind fun r0 =>
  match r0 with
   | .inl r1 =>
    some (-1)
   | .inr r1 =>
    some r1
noncomputable def dom_depth_l2_h : Sh := ⟨[(0, (.val (.list (.int .i64)))), (7, (.val (.int .i64)))], [(1, (.val (.int .i64))), (8, (.val (.int .i64)))], [1, 4, 5, 8, 9, 10, 11, 12, 13, 14, 15, 16, 17, 18, 19, 20, 21, 22, 23, 24, 25, 26, 27, 28, 29], [⟨.exit 0, []⟩, ⟨.ret, [(4, (.val (.int .i64)))]⟩]⟩
noncomputable def dom_depth_l2_F (n : Nat) : dom_depth_l2_h.Fn := fun x y => dom_depth_l2 n x.1 x.2.1 y.1 y.2.1
noncomputable def dom_depth_l2_k (n : Nat) : Cut := dom_depth_l2_h.cut (dom_depth_l2_F n)
noncomputable def dom_depth_e (n : Nat) : Env := mkEnv T_ A_ N_ [] [((0, 2, 9), dom_depth_l2_k n)] 30
noncomputable def dom_depth_c (n : Nat) : Con := mkCon [(.val (.list (.int .i64))), (.val (.int .i64))] [(.val (.int .i64))] (fun x => dom_depth n x.1 x.2.1)
theorem dom_depth_ok (n : Nat) : EnvOK Try.prog (dom_depth_e n) := mkEnv_ok tabs trivial
theorem dom_depth_l2_m (n : Nat) : CutMeets Try.prog (.loop (codeAt [1, 0, 1, 0, 0] (bodyOf Try.f70))) 30 (dom_depth_l2_k n) :=
 loop_ok dom_depth_l2_h dom_depth_l2_F (E := dom_depth_e) (l := fun n => []) mixed (fun _ => rfl) dom_depth_ok (by kernel_rfl) (fun _ => by kernel_rfl) (fun n => trivial) (fun _ _ => rfl) (fun n x y => by kernel_rfl) n
theorem dom_depth_m (n : Nat) : Meets Try.prog 70 (dom_depth_c n) :=
 con_meets (l := [(Code.loop (codeAt [1, 0, 1, 0, 0] (bodyOf Try.f70)), dom_depth_l2_k n)]) mixed Try.func70 (by kernel_rfl) (dom_depth_ok n) (by kernel_rfl) (by kernel_rfl) (by kernel_rfl) ⟨dom_depth_l2_m n, trivial⟩ (fun x => by kernel_rfl)
/-! 67 lockstep/dom.right -/
noncomputable def dom_right_l3 : Nat → (List Int) → (List Int) → Int → Int → Int → Option (Sum Int Bool)
 | 0, _, _, _, _, _ => none
 | n + 1, t0, t6, t7, t3, t8 =>
  if (decide (t8 < t7) = true) then
   if ((0 ≤ t8) ∧ (t8 < (t6.length : Int))) then
    if (((t6.getD t8.toNat 0) == (-1)) = true) then
     if (((t6.getD t8.toNat 0) != (-2)) = true) then
      (dom_depth n t0 t8).bind fun r0 =>
       if (decide (r0 < 0) = true) then
        some (.inr false)
       else (dom_right_l3 n t0 t6 t7 (IntKind.wrap .i64 (t3 + 1)) (IntKind.wrap .i64 (t8 + 1)))
     else (dom_right_l3 n t0 t6 t7 (IntKind.wrap .i64 (t3 + 1)) (IntKind.wrap .i64 (t8 + 1)))
    else if (((t6.getD t8.toNat 0) != (-2)) = true) then
     (dom_depth n t0 t8).bind fun r0 =>
      if (decide (r0 < 0) = true) then
       some (.inr false)
      else (dom_right_l3 n t0 t6 t7 t3 (IntKind.wrap .i64 (t8 + 1)))
    else (dom_right_l3 n t0 t6 t7 t3 (IntKind.wrap .i64 (t8 + 1)))
   else none
  else some (.inl t3)
noncomputable def dom_right (n : Nat) (t0 : (List Int)) : Option Bool :=
 (dom_right_l3 n t0 t0 (t0.length : Int) 0 0).bind fun r0 =>
  match r0 with
   | .inl r1 =>
    some (r1 == 1)
   | .inr r1 =>
    some r1
noncomputable def dom_right_l3_h : Sh := ⟨[(0, (.val (.list (.int .i64)))), (6, (.val (.list (.int .i64)))), (7, (.val (.int .i64)))], [(3, (.val (.int .i64))), (8, (.val (.int .i64)))], [2, 3, 4, 5, 8, 9, 10, 11, 12, 13, 14, 15, 16, 17, 18, 19, 20, 21, 22, 23, 24, 25], [⟨.exit 0, [(3, (.val (.int .i64)))]⟩, ⟨.ret, [(2, (.val .bool))]⟩]⟩
noncomputable def dom_right_l3_F (n : Nat) : dom_right_l3_h.Fn := fun x y => dom_right_l3 n x.1 x.2.1 x.2.2.1 y.1 y.2.1
noncomputable def dom_right_l3_k (n : Nat) : Cut := dom_right_l3_h.cut (dom_right_l3_F n)
noncomputable def dom_right_e (n : Nat) : Env := mkEnv T_ A_ N_ [(70, dom_depth_c n)] [((0, 3, 9), dom_right_l3_k n)] 28
noncomputable def dom_right_c (n : Nat) : Con := mkCon [(.val (.list (.int .i64)))] [(.val .bool)] (fun x => dom_right n x.1)
theorem dom_right_ok (n : Nat) : EnvOK Try.prog (dom_right_e n) := mkEnv_ok tabs ⟨⟨dom_depth_m n, fok70⟩, trivial⟩
theorem dom_right_l3_m (n : Nat) : CutMeets Try.prog (.loop (codeAt [1, 1, 0, 1, 0, 0] (bodyOf Try.f67))) 28 (dom_right_l3_k n) :=
 loop_ok dom_right_l3_h dom_right_l3_F (E := dom_right_e) (l := fun n => []) mixed (fun _ => rfl) dom_right_ok (by kernel_rfl) (fun _ => by kernel_rfl) (fun n => trivial) (fun _ _ => rfl) (fun n x y => by kernel_rfl) n
theorem dom_right_m (n : Nat) : Meets Try.prog 67 (dom_right_c n) :=
 con_meets (l := [(Code.loop (codeAt [1, 1, 0, 1, 0, 0] (bodyOf Try.f67)), dom_right_l3_k n)]) mixed Try.func67 (by kernel_rfl) (dom_right_ok n) (by kernel_rfl) (by kernel_rfl) (by kernel_rfl) ⟨dom_right_l3_m n, trivial⟩ (fun x => by kernel_rfl)
/-! 69 lockstep/dom.in$1 -/
noncomputable def dom_in_1 (n : Nat) (t0 : Int) (t1 : (List Int)) : Option (Bool × (List Int)) :=
 (dom_depth n t1 t0).bind fun r0 =>
  some (decide (r0 < 0), t1)
noncomputable def dom_in_1_e (n : Nat) : Env := mkEnv T_ A_ N_ [(70, dom_depth_c n)] [] 8
noncomputable def dom_in_1_c (n : Nat) : Con := mkCon [(.val (.int .i64)), (.box (.val (.list (.int .i64))))] [(.val .bool)] (fun x => dom_in_1 n x.1 x.2.1)
theorem dom_in_1_ok (n : Nat) : EnvOK Try.prog (dom_in_1_e n) := mkEnv_ok tabs ⟨⟨dom_depth_m n, fok70⟩, trivial⟩
theorem dom_in_1_m (n : Nat) : Meets Try.prog 69 (dom_in_1_c n) :=
 con_meets (l := []) mixed Try.func69 (by kernel_rfl) (dom_in_1_ok n) (by kernel_rfl) (by kernel_rfl) (by kernel_rfl) trivial (fun x => by kernel_rfl)
/-! 87 slices.IndexFunc[[]int,int] -/
noncomputable def slices_IndexFunc_int_int_dom_in_1_l2 : Nat → (List Int) → ((List Int) × Unit) → Int → Int → Option (Sum ((List Int) × Unit) (Int × ((List Int) × Unit)))
 | 0, _, _, _, _ => none
 | n + 1, t0, t1, t7, t8 =>
  if (decide (t8 < t7) = true) then
   if ((0 ≤ t8) ∧ (t8 < (t0.length : Int))) then
    (dom_in_1 n (t0.getD t8.toNat 0) t1.1).bind fun r0 =>
     if (r0.1 = true) then
      some (.inr (t8, r0.2, ()))
     else (slices_IndexFunc_int_int_dom_in_1_l2 n t0 (r0.2, ()) t7 (IntKind.wrap .i64 (t8 + 1)))
   else none
  else some (.inl t1)
noncomputable def slices_IndexFunc_int_int_dom_in_1 (n : Nat) (t0 : (List Int)) (t1 : ((List Int) × Unit)) : Option (Int × ((List Int) × Unit)) :=
 (slices_IndexFunc_int_int_dom_in_1_l2 n t0 t1 (t0.length : Int) 0).bind fun r0 =>
  match r0 with
   | .inl r1 =>
    some ((-1), r1)
   | .inr r1 =>
    some r1
noncomputable def slices_IndexFunc_int_int_dom_in_1_l2_h : Sh := ⟨[(0, (.val (.list (.int .i64)))), (1, (.func 69 0 (.pair (.box (.val (.list (.int .i64)))) .unit))), (7, (.val (.int .i64)))], [(8, (.val (.int .i64)))], [4, 5, 8, 9, 10, 11, 12, 13, 14, 15, 16, 17, 18], [⟨.exit 0, []⟩, ⟨.ret, [(4, (.val (.int .i64)))]⟩]⟩
noncomputable def slices_IndexFunc_int_int_dom_in_1_l2_F (n : Nat) : slices_IndexFunc_int_int_dom_in_1_l2_h.Fn := fun x y => slices_IndexFunc_int_int_dom_in_1_l2 n x.1 x.2.1 x.2.2.1 y.1
noncomputable def slices_IndexFunc_int_int_dom_in_1_l2_k (n : Nat) : Cut := slices_IndexFunc_int_int_dom_in_1_l2_h.cut (slices_IndexFunc_int_int_dom_in_1_l2_F n)
noncomputable def slices_IndexFunc_int_int_dom_in_1_e (n : Nat) : Env := mkEnv T_ A_ N_ [(69, dom_in_1_c n)] [((0, 2, 6), slices_IndexFunc_int_int_dom_in_1_l2_k n)] 19
noncomputable def slices_IndexFunc_int_int_dom_in_1_c (n : Nat) : Con := mkCon [(.val (.list (.int .i64))), (.func 69 0 (.pair (.box (.val (.list (.int .i64)))) .unit))] [(.val (.int .i64))] (fun x => slices_IndexFunc_int_int_dom_in_1 n x.1 x.2.1)
theorem slices_IndexFunc_int_int_dom_in_1_ok (n : Nat) : EnvOK Try.prog (slices_IndexFunc_int_int_dom_in_1_e n) := mkEnv_ok tabs ⟨⟨dom_in_1_m n, fok69⟩, trivial⟩
theorem slices_IndexFunc_int_int_dom_in_1_l2_m (n : Nat) : CutMeets Try.prog (.loop (codeAt [1, 0, 1, 0, 0] (bodyOf Try.f87))) 19 (slices_IndexFunc_int_int_dom_in_1_l2_k n) :=
 loop_ok slices_IndexFunc_int_int_dom_in_1_l2_h slices_IndexFunc_int_int_dom_in_1_l2_F (E := slices_IndexFunc_int_int_dom_in_1_e) (l := fun n => []) mixed (fun _ => rfl) slices_IndexFunc_int_int_dom_in_1_ok (by kernel_rfl) (fun _ => by kernel_rfl) (fun n => trivial) (fun _ _ => rfl) (fun n x y => by kernel_rfl) n
theorem slices_IndexFunc_int_int_dom_in_1_m (n : Nat) : Meets Try.prog 87 (slices_IndexFunc_int_int_dom_in_1_c n) :=
 con_meets (l := [(Code.loop (codeAt [1, 0, 1, 0, 0] (bodyOf Try.f87)), slices_IndexFunc_int_int_dom_in_1_l2_k n)]) mixed Try.func87 (by kernel_rfl) (slices_IndexFunc_int_int_dom_in_1_ok n) (by kernel_rfl) (by kernel_rfl) (by kernel_rfl) ⟨slices_IndexFunc_int_int_dom_in_1_l2_m n, trivial⟩ (fun x => by kernel_rfl)
/-! 68 slices.ContainsFunc[[]int,int] -/
noncomputable def slices_ContainsFunc_int_int_dom_in_1 (n : Nat) (t0 : (List Int)) (t1 : ((List Int) × Unit)) : Option (Bool × ((List Int) × Unit)) :=
 (slices_IndexFunc_int_int_dom_in_1 n t0 t1).bind fun r0 =>
  some (decide (r0.1 ≥ 0), r0.2)
noncomputable def slices_ContainsFunc_int_int_dom_in_1_e (n : Nat) : Env := mkEnv T_ A_ N_ [(69, dom_in_1_c n), (87, slices_IndexFunc_int_int_dom_in_1_c n)] [] 9
noncomputable def slices_ContainsFunc_int_int_dom_in_1_c (n : Nat) : Con := mkCon [(.val (.list (.int .i64))), (.func 69 0 (.pair (.box (.val (.list (.int .i64)))) .unit))] [(.val .bool)] (fun x => slices_ContainsFunc_int_int_dom_in_1 n x.1 x.2.1)
theorem slices_ContainsFunc_int_int_dom_in_1_ok (n : Nat) : EnvOK Try.prog (slices_ContainsFunc_int_int_dom_in_1_e n) := mkEnv_ok tabs ⟨⟨dom_in_1_m n, fok69⟩, ⟨slices_IndexFunc_int_int_dom_in_1_m n, fok87⟩, trivial⟩
theorem slices_ContainsFunc_int_int_dom_in_1_m (n : Nat) : Meets Try.prog 68 (slices_ContainsFunc_int_int_dom_in_1_c n) :=
 con_meets (l := []) mixed Try.func68 (by kernel_rfl) (slices_ContainsFunc_int_int_dom_in_1_ok n) (by kernel_rfl) (by kernel_rfl) (by kernel_rfl) trivial (fun x => by kernel_rfl)
/-! 47 lockstep/dom.in -/
noncomputable def dom_in (n : Nat) (t0 : (List Int)) (t1 : (List Int)) : Option Bool :=
 (dom_right n t0).bind fun r0 =>
  if (r0 = true) then
   (slices_ContainsFunc_int_int_dom_in_1 n t1 (t0, ())).bind fun r1 =>
    some (!r1.1)
  else some false
noncomputable def dom_in_e (n : Nat) : Env := mkEnv T_ A_ N_ [(67, dom_right_c n), (69, dom_in_1_c n), (68, slices_ContainsFunc_int_int_dom_in_1_c n)] [] 13
noncomputable def dom_in_c (n : Nat) : Con := mkCon [(.val (.list (.int .i64))), (.val (.list (.int .i64)))] [(.val .bool)] (fun x => dom_in n x.1 x.2.1)
theorem dom_in_ok (n : Nat) : EnvOK Try.prog (dom_in_e n) := mkEnv_ok tabs ⟨⟨dom_right_m n, fok67⟩, ⟨dom_in_1_m n, fok69⟩, ⟨slices_ContainsFunc_int_int_dom_in_1_m n, fok68⟩, trivial⟩
theorem dom_in_m (n : Nat) : Meets Try.prog 47 (dom_in_c n) :=
 con_meets (l := []) mixed Try.func47 (by kernel_rfl) (dom_in_ok n) (by kernel_rfl) (by kernel_rfl) (by kernel_rfl) trivial (fun x => by kernel_rfl)
/-! 48 lockstep/dom.Meet -/
noncomputable def dom_Meet_l3 : Nat → (List Int) → Int → Int → Option Int
 | 0, _, _, _ => none
 | n + 1, t0, t1, t2 =>
  if ((t1 != t2) = true) then
   (dom_depth n t0 t1).bind fun r0 =>
    (dom_depth n t0 t2).bind fun r1 =>
     if (decide (r0 ≥ r1) = true) then
      if ((0 ≤ t1) ∧ (t1 < (t0.length : Int))) then
       (dom_Meet_l3 n t0 (t0.getD t1.toNat 0) t2)
      else none
     else if ((0 ≤ t2) ∧ (t2 < (t0.length : Int))) then
      (dom_Meet_l3 n t0 t1 (t0.getD t2.toNat 0))
     else none
  else some t1
noncomputable def dom_Meet (n : Nat) (t0 : (List Int)) (t1 : Int) (t2 : Int) : Option Int :=
 (dom_in n t0 ([t1, t2])).bind fun r0 =>
  if ((!r0) = true) then
   some (-2)
  else (dom_Meet_l3 n t0 t1 t2).bind fun r1 =>
   some r1
noncomputable def dom_Meet_l3_h : Sh := ⟨[(0, (.val (.list (.int .i64))))], [(1, (.val (.int .i64))), (2, (.val (.int .i64)))], [1, 2, 13, 14, 15, 16, 17, 18, 19, 20, 21, 22, 23, 24, 25, 26, 27, 28, 29, 30], [⟨.exit 0, [(1, (.val (.int .i64)))]⟩]⟩
noncomputable def dom_Meet_l3_F (n : Nat) : dom_Meet_l3_h.Fn := fun x y => dom_Meet_l3 n x.1 y.1 y.2.1
noncomputable def dom_Meet_l3_k (n : Nat) : Cut := dom_Meet_l3_h.cut (dom_Meet_l3_F n)
noncomputable def dom_Meet_e (n : Nat) : Env := mkEnv T_ A_ N_ [(70, dom_depth_c n), (47, dom_in_c n)] [((0, 3, 6), dom_Meet_l3_k n)] 32
noncomputable def dom_Meet_c (n : Nat) : Con := mkCon [(.val (.list (.int .i64))), (.val (.int .i64)), (.val (.int .i64))] [(.val (.int .i64))] (fun x => dom_Meet n x.1 x.2.1 x.2.2.1)
theorem dom_Meet_ok (n : Nat) : EnvOK Try.prog (dom_Meet_e n) := mkEnv_ok tabs ⟨⟨dom_depth_m n, fok70⟩, ⟨dom_in_m n, fok47⟩, trivial⟩
theorem dom_Meet_l3_m (n : Nat) : CutMeets Try.prog (.loop (codeAt [1, 1, 0, 0, 0] (bodyOf Try.f48))) 32 (dom_Meet_l3_k n) :=
 loop_ok dom_Meet_l3_h dom_Meet_l3_F (E := dom_Meet_e) (l := fun n => []) mixed (fun _ => rfl) dom_Meet_ok (by kernel_rfl) (fun _ => by kernel_rfl) (fun n => trivial) (fun _ _ => rfl) (fun n x y => by kernel_rfl) n
theorem dom_Meet_m (n : Nat) : Meets Try.prog 48 (dom_Meet_c n) :=
 con_meets (l := [(Code.loop (codeAt [1, 1, 0, 0, 0] (bodyOf Try.f48)), dom_Meet_l3_k n)]) mixed Try.func48 (by kernel_rfl) (dom_Meet_ok n) (by kernel_rfl) (by kernel_rfl) (by kernel_rfl) ⟨dom_Meet_l3_m n, trivial⟩ (fun x => by kernel_rfl)
/-! 23 lockstep/dom.Over -/
noncomputable def dom_Over (n : Nat) (t0 : (List Int)) (t1 : Int) (t2 : Int) : Option Bool :=
 (dom_in n t0 ([t1, t2])).bind fun r0 =>
  if (r0 = true) then
   (dom_Meet n t0 t1 t2).bind fun r1 =>
    some (r1 == t1)
  else some false
noncomputable def dom_Over_e (n : Nat) : Env := mkEnv T_ A_ N_ [(47, dom_in_c n), (48, dom_Meet_c n)] [] 20
noncomputable def dom_Over_c (n : Nat) : Con := mkCon [(.val (.list (.int .i64))), (.val (.int .i64)), (.val (.int .i64))] [(.val .bool)] (fun x => dom_Over n x.1 x.2.1 x.2.2.1)
theorem dom_Over_ok (n : Nat) : EnvOK Try.prog (dom_Over_e n) := mkEnv_ok tabs ⟨⟨dom_in_m n, fok47⟩, ⟨dom_Meet_m n, fok48⟩, trivial⟩
theorem dom_Over_m (n : Nat) : Meets Try.prog 23 (dom_Over_c n) :=
 con_meets (l := []) mixed Try.func23 (by kernel_rfl) (dom_Over_ok n) (by kernel_rfl) (by kernel_rfl) (by kernel_rfl) trivial (fun x => by kernel_rfl)
/- slices_Sort_int_int : Nat → (List Int) → Option (List Int) is given by hand: slices_Sort_int_int, slices_Sort_int_int_c, slices_Sort_int_int_m -/
/- slices_Sort_int_int_f24 : Nat → (List Int) → Option Unit is given by hand: slices_Sort_int_int_f24, slices_Sort_int_int_f24_c, slices_Sort_int_int_f24_m -/
/- slices_Compact_int_int : Nat → (List Int) → Option (List Int) is given by hand: slices_Compact_int_int, slices_Compact_int_int_c, slices_Compact_int_int_m -/
/-! 10 lockstep/dep.Frontier -/
noncomputable def dep_Frontier_l10 : Nat → Int → (List Int) → (List (List Int)) → Int → Int → (List Int) → Int → (List Int) → Int → Option (List Int)
 | 0, _, _, _, _, _, _, _, _, _ => none
 | n + 1, t1, t5, t19, t20, t21, t31, t32, t6, t33 =>
  if (decide (t33 < t32) = true) then
   if ((0 ≤ t33) ∧ (t33 < (t31.length : Int))) then
    if (((t31.getD t33.toNat 0) == t1) = false) then
     (dom_Over n t5 t1 (t31.getD t33.toNat 0)).bind fun r0 =>
      if ((!r0) = true) then
       if ((t6 ++ [(t31.getD t33.toNat 0)]).length ≤ Ev.most) then
        (dep_Frontier_l10 n t1 t5 t19 t20 t21 t31 t32 (t6 ++ [(t31.getD t33.toNat 0)]) (IntKind.wrap .i64 (t33 + 1)))
       else none
      else (dep_Frontier_l10 n t1 t5 t19 t20 t21 t31 t32 t6 (IntKind.wrap .i64 (t33 + 1)))
    else if ((t6 ++ [(t31.getD t33.toNat 0)]).length ≤ Ev.most) then
     (dep_Frontier_l10 n t1 t5 t19 t20 t21 t31 t32 (t6 ++ [(t31.getD t33.toNat 0)]) (IntKind.wrap .i64 (t33 + 1)))
    else none
   else none
  else some t6
noncomputable def dep_Frontier_l6 : Nat → Int → (List Int) → (List (List Int)) → Int → (List Int) → Int → Option (List Int)
 | 0, _, _, _, _, _, _ => none
 | n + 1, t1, t5, t19, t20, t6, t21 =>
  if (decide (t21 < t20) = true) then
   if ((0 ≤ t21) ∧ (t21 < (t19.length : Int))) then
    (dom_Over n t5 t1 t21).bind fun r0 =>
     if ((!r0) = true) then
      (dep_Frontier_l6 n t1 t5 t19 t20 t6 (IntKind.wrap .i64 (t21 + 1)))
     else (dep_Frontier_l10 n t1 t5 t19 t20 t21 (t19.getD t21.toNat []) ((t19.getD t21.toNat []).length : Int) t6 0).bind fun r1 =>
      (dep_Frontier_l6 n t1 t5 t19 t20 r1 (IntKind.wrap .i64 (t21 + 1)))
   else none
  else some t6
noncomputable def dep_Frontier (n : Nat) (t0 : L_api_Graph) (t1 : Int) : Option (List Int) :=
 (dom_Tree n t0 0).bind fun r0 =>
  (dom_Over n r0 t1 t1).bind fun r1 =>
   if ((!r1) = true) then
    some []
   else (dep_Frontier_l6 n t1 r0 t0.1 (t0.1.length : Int) [] 0).bind fun r2 =>
    if (0 < r2.length) then
     if (0 < r2.length) then
      (slices_Sort_int_int n r2).bind fun r3 =>
       (slices_Compact_int_int n r3).bind fun r4 =>
        some r4
     else none
    else (slices_Sort_int_int_f24 n r2).bind fun r3 =>
     (slices_Compact_int_int n r2).bind fun r4 =>
      some r4
noncomputable def dep_Frontier_l10_h : Sh := ⟨[(1, (.val (.int .i64))), (5, (.val (.list (.int .i64)))), (19, (.val (.list (.list (.int .i64))))), (20, (.val (.int .i64))), (21, (.val (.int .i64))), (31, (.val (.list (.int .i64)))), (32, (.val (.int .i64)))], [(6, (.own (.int .i64))), (33, (.val (.int .i64)))], [6, 10, 33, 34, 35, 36, 37, 38, 39, 40, 41, 42, 43, 44, 45, 46, 47, 48, 49, 50, 51], [⟨.exit 2, [(6, (.own (.int .i64)))]⟩]⟩
noncomputable def dep_Frontier_l10_F (n : Nat) : dep_Frontier_l10_h.Fn := fun x y => dep_Frontier_l10 n x.1 x.2.1 x.2.2.1 x.2.2.2.1 x.2.2.2.2.1 x.2.2.2.2.2.1 x.2.2.2.2.2.2.1 y.1 y.2.1
noncomputable def dep_Frontier_l10_k (n : Nat) : Cut := dep_Frontier_l10_h.cut (dep_Frontier_l10_F n)
noncomputable def dep_Frontier_l6_h : Sh := ⟨[(1, (.val (.int .i64))), (5, (.val (.list (.int .i64)))), (19, (.val (.list (.list (.int .i64))))), (20, (.val (.int .i64)))], [(6, (.own (.int .i64))), (21, (.val (.int .i64)))], [6, 7, 8, 10, 21, 22, 23, 24, 25, 26, 27, 28, 29, 30, 31, 32, 33, 34, 35, 36, 37, 38, 39, 40, 41, 42, 43, 44, 45, 46, 47, 48, 49, 50, 51, 52], [⟨.exit 0, [(6, (.own (.int .i64)))]⟩]⟩
noncomputable def dep_Frontier_l6_F (n : Nat) : dep_Frontier_l6_h.Fn := fun x y => dep_Frontier_l6 n x.1 x.2.1 x.2.2.1 x.2.2.2.1 y.1 y.2.1
noncomputable def dep_Frontier_l6_k (n : Nat) : Cut := dep_Frontier_l6_h.cut (dep_Frontier_l6_F n)
noncomputable def dep_Frontier_e (n : Nat) : Env := mkEnv T_ A_ N_ [(22, dom_Tree_c n), (23, dom_Over_c n), (24, slices_Sort_int_int_c n), (24, slices_Sort_int_int_f24_c n), (25, slices_Compact_int_int_c n)] [((0, 10, 14), dep_Frontier_l10_k n), ((0, 6, 15), dep_Frontier_l6_k n)] 57
noncomputable def dep_Frontier_c (n : Nat) : Con := mkCon [(.val Y_api_Graph), (.val (.int .i64))] [(.val (.list (.int .i64)))] (fun x => dep_Frontier n x.1 x.2.1)
theorem dep_Frontier_ok (n : Nat) : EnvOK Try.prog (dep_Frontier_e n) := mkEnv_ok tabs ⟨⟨dom_Tree_m n, fok22⟩, ⟨dom_Over_m n, fok23⟩, ⟨slices_Sort_int_int_m n, fok24⟩, ⟨slices_Sort_int_int_f24_m n, fok24⟩, ⟨slices_Compact_int_int_m n, fok25⟩, trivial⟩
theorem dep_Frontier_l10_m (n : Nat) : CutMeets Try.prog (.loop (codeAt [1, 1, 1, 1, 0, 1, 0, 0, 1, 1, 0, 0, 1, 1, 1, 0, 0] (bodyOf Try.f10))) 57 (dep_Frontier_l10_k n) :=
 loop_ok dep_Frontier_l10_h dep_Frontier_l10_F (E := dep_Frontier_e) (l := fun n => []) mixed (fun _ => rfl) dep_Frontier_ok (by kernel_rfl) (fun _ => by kernel_rfl) (fun n => trivial) (fun _ _ => rfl) (fun n x y => by kernel_rfl) n
theorem dep_Frontier_l6_m (n : Nat) : CutMeets Try.prog (.loop (codeAt [1, 1, 1, 1, 0, 1, 0, 0] (bodyOf Try.f10))) 57 (dep_Frontier_l6_k n) :=
 loop_ok dep_Frontier_l6_h dep_Frontier_l6_F (E := dep_Frontier_e) (l := fun n => [(Code.loop (codeAt [1, 1, 1, 1, 0, 1, 0, 0, 1, 1, 0, 0, 1, 1, 1, 0, 0] (bodyOf Try.f10)), dep_Frontier_l10_k n)]) mixed (fun _ => rfl) dep_Frontier_ok (by kernel_rfl) (fun _ => by kernel_rfl) (fun n => ⟨dep_Frontier_l10_m n, trivial⟩) (fun _ _ => rfl) (fun n x y => by kernel_rfl) n
theorem dep_Frontier_m (n : Nat) : Meets Try.prog 10 (dep_Frontier_c n) :=
 con_meets (l := [(Code.loop (codeAt [1, 1, 1, 1, 0, 1, 0, 0] (bodyOf Try.f10)), dep_Frontier_l6_k n)]) mixed Try.func10 (by kernel_rfl) (dep_Frontier_ok n) (by kernel_rfl) (by kernel_rfl) (by kernel_rfl) ⟨dep_Frontier_l6_m n, trivial⟩ (fun x => by kernel_rfl)
/-! 9 lockstep/lockstepref02.Ints -/
noncomputable def lockstepref02_Ints_l4 : Nat → (List Int) → (List Int) → Int → Option (Sum Unit Bool)
 | 0, _, _, _ => none
 | n + 1, t0, t1, t5 =>
  if (decide (t5 < (t0.length : Int)) = true) then
   if ((0 ≤ t5) ∧ (t5 < (t0.length : Int))) then
    if ((0 ≤ t5) ∧ (t5 < (t1.length : Int))) then
     if (((t0.getD t5.toNat 0) != (t1.getD t5.toNat 0)) = true) then
      some (.inr false)
     else (lockstepref02_Ints_l4 n t0 t1 (IntKind.wrap .i64 (t5 + 1)))
    else none
   else none
  else some (.inl ())
noncomputable def lockstepref02_Ints (n : Nat) (t0 : (List Int)) (t1 : (List Int)) : Option Bool :=
 if (((t0.length : Int) != (t1.length : Int)) = true) then
  some false
 else (lockstepref02_Ints_l4 n t0 t1 0).bind fun r0 =>
  match r0 with
   | .inl r1 =>
    some true
   | .inr r1 =>
    some r1
noncomputable def lockstepref02_Ints_l4_h : Sh := ⟨[(0, (.val (.list (.int .i64)))), (1, (.val (.list (.int .i64))))], [(5, (.val (.int .i64)))], [4, 5, 11, 12, 13, 14, 15, 16, 17, 18, 19, 20, 21, 22, 23, 24, 25], [⟨.exit 0, []⟩, ⟨.ret, [(4, (.val .bool))]⟩]⟩
noncomputable def lockstepref02_Ints_l4_F (n : Nat) : lockstepref02_Ints_l4_h.Fn := fun x y => lockstepref02_Ints_l4 n x.1 x.2.1 y.1
noncomputable def lockstepref02_Ints_l4_k (n : Nat) : Cut := lockstepref02_Ints_l4_h.cut (lockstepref02_Ints_l4_F n)
noncomputable def lockstepref02_Ints_e (n : Nat) : Env := mkEnv T_ A_ N_ [] [((0, 4, 5), lockstepref02_Ints_l4_k n)] 26
noncomputable def lockstepref02_Ints_c (n : Nat) : Con := mkCon [(.val (.list (.int .i64))), (.val (.list (.int .i64)))] [(.val .bool)] (fun x => lockstepref02_Ints n x.1 x.2.1)
theorem lockstepref02_Ints_ok (n : Nat) : EnvOK Try.prog (lockstepref02_Ints_e n) := mkEnv_ok tabs trivial
theorem lockstepref02_Ints_l4_m (n : Nat) : CutMeets Try.prog (.loop (codeAt [1, 1, 0, 1, 0, 0] (bodyOf Try.f9))) 26 (lockstepref02_Ints_l4_k n) :=
 loop_ok lockstepref02_Ints_l4_h lockstepref02_Ints_l4_F (E := lockstepref02_Ints_e) (l := fun n => []) mixed (fun _ => rfl) lockstepref02_Ints_ok (by kernel_rfl) (fun _ => by kernel_rfl) (fun n => trivial) (fun _ _ => rfl) (fun n x y => by kernel_rfl) n
theorem lockstepref02_Ints_m (n : Nat) : Meets Try.prog 9 (lockstepref02_Ints_c n) :=
 con_meets (l := [(Code.loop (codeAt [1, 1, 0, 1, 0, 0] (bodyOf Try.f9)), lockstepref02_Ints_l4_k n)]) mixed Try.func9 (by kernel_rfl) (lockstepref02_Ints_ok n) (by kernel_rfl) (by kernel_rfl) (by kernel_rfl) ⟨lockstepref02_Ints_l4_m n, trivial⟩ (fun x => by kernel_rfl)
/-! 13 lockstep/dep.Of -/
noncomputable def dep_Of_l3 : Nat → Int → (List L_api_Dep) → Int → (List L_api_Dep) → Int → Option (List L_api_Dep)
 | 0, _, _, _, _, _ => none
 | n + 1, t1, t9, t10, t5, t11 =>
  if (decide (t11 < t10) = true) then
   if ((0 ≤ t11) ∧ (t11 < (t9.length : Int))) then
    if (((t9.getD t11.toNat (0, 0, 0, ())).1 == t1) = true) then
     if ((t5 ++ [(t9.getD t11.toNat (0, 0, 0, ()))]).length ≤ Ev.most) then
      (dep_Of_l3 n t1 t9 t10 (t5 ++ [(t9.getD t11.toNat (0, 0, 0, ()))]) (IntKind.wrap .i64 (t11 + 1)))
     else none
    else (dep_Of_l3 n t1 t9 t10 t5 (IntKind.wrap .i64 (t11 + 1)))
   else none
  else some t5
noncomputable def dep_Of (n : Nat) (t0 : L_api_Graph) (t1 : Int) : Option (List L_api_Dep) :=
 (dep_All n t0).bind fun r0 =>
  (dep_Of_l3 n t1 r0 (r0.length : Int) [] 0).bind fun r1 =>
   some r1
noncomputable def dep_Of_l3_h : Sh := ⟨[(1, (.val (.int .i64))), (9, (.val (.list Y_api_Dep))), (10, (.val (.int .i64)))], [(5, (.own Y_api_Dep)), (11, (.val (.int .i64)))], [5, 7, 11, 12, 13, 14, 15, 16, 17, 18, 19, 20, 21, 22, 23], [⟨.exit 0, [(5, (.own Y_api_Dep))]⟩]⟩
noncomputable def dep_Of_l3_F (n : Nat) : dep_Of_l3_h.Fn := fun x y => dep_Of_l3 n x.1 x.2.1 x.2.2.1 y.1 y.2.1
noncomputable def dep_Of_l3_k (n : Nat) : Cut := dep_Of_l3_h.cut (dep_Of_l3_F n)
noncomputable def dep_Of_e (n : Nat) : Env := mkEnv T_ A_ N_ [(7, dep_All_c n)] [((0, 3, 7), dep_Of_l3_k n)] 25
noncomputable def dep_Of_c (n : Nat) : Con := mkCon [(.val Y_api_Graph), (.val (.int .i64))] [(.val (.list Y_api_Dep))] (fun x => dep_Of n x.1 x.2.1)
theorem dep_Of_ok (n : Nat) : EnvOK Try.prog (dep_Of_e n) := mkEnv_ok tabs ⟨⟨dep_All_m n, fok7⟩, trivial⟩
theorem dep_Of_l3_m (n : Nat) : CutMeets Try.prog (.loop (codeAt [1, 1, 0, 1, 0, 0] (bodyOf Try.f13))) 25 (dep_Of_l3_k n) :=
 loop_ok dep_Of_l3_h dep_Of_l3_F (E := dep_Of_e) (l := fun n => []) mixed (fun _ => rfl) dep_Of_ok (by kernel_rfl) (fun _ => by kernel_rfl) (fun n => trivial) (fun _ _ => rfl) (fun n x y => by kernel_rfl) n
theorem dep_Of_m (n : Nat) : Meets Try.prog 13 (dep_Of_c n) :=
 con_meets (l := [(Code.loop (codeAt [1, 1, 0, 1, 0, 0] (bodyOf Try.f13)), dep_Of_l3_k n)]) mixed Try.func13 (by kernel_rfl) (dep_Of_ok n) (by kernel_rfl) (by kernel_rfl) (by kernel_rfl) ⟨dep_Of_l3_m n, trivial⟩ (fun x => by kernel_rfl)
/-! 4 lockstep/locksteplaw09.awake -/
noncomputable def locksteplaw09_awake (n : Nat) : Option Bool :=
 (graph_Make n ([[1, 2], [3], [3], []])).bind fun r0 =>
  (dep_All n r0.1).bind fun r1 =>
   if ((r0.2 == 0) = true) then
    if (((r1.length : Int) == 2) = true) then
     if (((0 : Int) ≤ 0) ∧ (0 < (r1.length : Int))) then
      if ((((r1.getD 0 (0, 0, 0, ())).1 == 1) && ((((r1.getD 0 (0, 0, 0, ())).2).1 == 0) && ((((r1.getD 0 (0, 0, 0, ())).2).2).1 == 1))) = true) then
       if (((0 : Int) ≤ 1) ∧ (1 < (r1.length : Int))) then
        if ((((r1.getD 1 (0, 0, 0, ())).1 == 2) && ((((r1.getD 1 (0, 0, 0, ())).2).1 == 0) && ((((r1.getD 1 (0, 0, 0, ())).2).2).1 == 2))) = true) then
         (dep_Frontier n r0.1 1).bind fun r2 =>
          (lockstepref02_Ints n r2 [3]).bind fun r3 =>
           if (r3 = true) then
            (dep_Of n r0.1 3).bind fun r4 =>
             some ((r4.length : Int) == 0)
           else some false
        else some false
       else none
      else some false
     else none
    else some false
   else some false
noncomputable def locksteplaw09_awake_e (n : Nat) : Env := mkEnv T_ A_ N_ [(12, graph_Make_c n), (7, dep_All_c n), (10, dep_Frontier_c n), (9, lockstepref02_Ints_c n), (13, dep_Of_c n)] [] 47
noncomputable def locksteplaw09_awake_c (n : Nat) : Con := mkCon [] [(.val .bool)] (fun x => locksteplaw09_awake n)
theorem locksteplaw09_awake_ok (n : Nat) : EnvOK Try.prog (locksteplaw09_awake_e n) := mkEnv_ok tabs ⟨⟨graph_Make_m n, fok12⟩, ⟨dep_All_m n, fok7⟩, ⟨dep_Frontier_m n, fok10⟩, ⟨lockstepref02_Ints_m n, fok9⟩, ⟨dep_Of_m n, fok13⟩, trivial⟩
theorem locksteplaw09_awake_m (n : Nat) : Meets Try.prog 4 (locksteplaw09_awake_c n) :=
 con_meets (l := []) mixed Try.func4 (by kernel_rfl) (locksteplaw09_awake_ok n) (by kernel_rfl) (by kernel_rfl) (by kernel_rfl) trivial (fun x => by kernel_rfl)
/-! 5 lockstep/lockstepref06.Small -/
noncomputable def lockstepref06_Small_l2 : Nat → (List (List Int)) → Int → Option (Sum Unit Bool)
 | 0, _, _ => none
 | n + 1, t0, t3 =>
  if (decide (t3 < (t0.length : Int)) = true) then
   if ((0 ≤ t3) ∧ (t3 < (t0.length : Int))) then
    if (decide (((t0.getD t3.toNat []).length : Int) > 100) = false) then
     if (decide (t3 > 100) = true) then
      some (.inr false)
     else (lockstepref06_Small_l2 n t0 (IntKind.wrap .i64 (t3 + 1)))
    else some (.inr false)
   else none
  else some (.inl ())
noncomputable def lockstepref06_Small (n : Nat) (t0 : (List (List Int))) : Option Bool :=
 (lockstepref06_Small_l2 n t0 0).bind fun r0 =>
  match r0 with
   | .inl r1 =>
    some true
   | .inr r1 =>
    some r1
noncomputable def lockstepref06_Small_l2_h : Sh := ⟨[(0, (.val (.list (.list (.int .i64)))))], [(3, (.val (.int .i64)))], [2, 3, 4, 5, 6, 7, 8, 9, 10, 11, 12, 13, 14, 15, 16, 17, 18, 19], [⟨.exit 0, []⟩, ⟨.ret, [(2, (.val .bool))]⟩]⟩
noncomputable def lockstepref06_Small_l2_F (n : Nat) : lockstepref06_Small_l2_h.Fn := fun x y => lockstepref06_Small_l2 n x.1 y.1
noncomputable def lockstepref06_Small_l2_k (n : Nat) : Cut := lockstepref06_Small_l2_h.cut (lockstepref06_Small_l2_F n)
noncomputable def lockstepref06_Small_e (n : Nat) : Env := mkEnv T_ A_ N_ [] [((0, 2, 3), lockstepref06_Small_l2_k n)] 20
noncomputable def lockstepref06_Small_c (n : Nat) : Con := mkCon [(.val (.list (.list (.int .i64))))] [(.val .bool)] (fun x => lockstepref06_Small n x.1)
theorem lockstepref06_Small_ok (n : Nat) : EnvOK Try.prog (lockstepref06_Small_e n) := mkEnv_ok tabs trivial
theorem lockstepref06_Small_l2_m (n : Nat) : CutMeets Try.prog (.loop (codeAt [1, 0, 1, 0, 0] (bodyOf Try.f5))) 20 (lockstepref06_Small_l2_k n) :=
 loop_ok lockstepref06_Small_l2_h lockstepref06_Small_l2_F (E := lockstepref06_Small_e) (l := fun n => []) mixed (fun _ => rfl) lockstepref06_Small_ok (by kernel_rfl) (fun _ => by kernel_rfl) (fun n => trivial) (fun _ _ => rfl) (fun n x y => by kernel_rfl) n
theorem lockstepref06_Small_m (n : Nat) : Meets Try.prog 5 (lockstepref06_Small_c n) :=
 con_meets (l := [(Code.loop (codeAt [1, 0, 1, 0, 0] (bodyOf Try.f5)), lockstepref06_Small_l2_k n)]) mixed Try.func5 (by kernel_rfl) (lockstepref06_Small_ok n) (by kernel_rfl) (by kernel_rfl) (by kernel_rfl) ⟨lockstepref06_Small_l2_m n, trivial⟩ (fun x => by kernel_rfl)
/-! 21 lockstep/lockstepref06.Has -/
noncomputable def lockstepref06_Has_l2 : Nat → (List Int) → Int → Int → Option (Sum Unit Bool)
 | 0, _, _, _ => none
 | n + 1, t0, t1, t5 =>
  if (decide (t5 < (t0.length : Int)) = true) then
   if ((0 ≤ t5) ∧ (t5 < (t0.length : Int))) then
    if (((t0.getD t5.toNat 0) == t1) = true) then
     some (.inr true)
    else (lockstepref06_Has_l2 n t0 t1 (IntKind.wrap .i64 (t5 + 1)))
   else none
  else some (.inl ())
noncomputable def lockstepref06_Has (n : Nat) (t0 : (List Int)) (t1 : Int) : Option Bool :=
 (lockstepref06_Has_l2 n t0 t1 0).bind fun r0 =>
  match r0 with
   | .inl r1 =>
    some false
   | .inr r1 =>
    some r1
noncomputable def lockstepref06_Has_l2_h : Sh := ⟨[(0, (.val (.list (.int .i64)))), (1, (.val (.int .i64)))], [(5, (.val (.int .i64)))], [4, 5, 6, 7, 8, 9, 10, 11, 12, 13, 14, 15, 16, 17], [⟨.exit 0, []⟩, ⟨.ret, [(4, (.val .bool))]⟩]⟩
noncomputable def lockstepref06_Has_l2_F (n : Nat) : lockstepref06_Has_l2_h.Fn := fun x y => lockstepref06_Has_l2 n x.1 x.2.1 y.1
noncomputable def lockstepref06_Has_l2_k (n : Nat) : Cut := lockstepref06_Has_l2_h.cut (lockstepref06_Has_l2_F n)
noncomputable def lockstepref06_Has_e (n : Nat) : Env := mkEnv T_ A_ N_ [] [((0, 2, 3), lockstepref06_Has_l2_k n)] 18
noncomputable def lockstepref06_Has_c (n : Nat) : Con := mkCon [(.val (.list (.int .i64))), (.val (.int .i64))] [(.val .bool)] (fun x => lockstepref06_Has n x.1 x.2.1)
theorem lockstepref06_Has_ok (n : Nat) : EnvOK Try.prog (lockstepref06_Has_e n) := mkEnv_ok tabs trivial
theorem lockstepref06_Has_l2_m (n : Nat) : CutMeets Try.prog (.loop (codeAt [1, 0, 1, 0, 0] (bodyOf Try.f21))) 18 (lockstepref06_Has_l2_k n) :=
 loop_ok lockstepref06_Has_l2_h lockstepref06_Has_l2_F (E := lockstepref06_Has_e) (l := fun n => []) mixed (fun _ => rfl) lockstepref06_Has_ok (by kernel_rfl) (fun _ => by kernel_rfl) (fun n => trivial) (fun _ _ => rfl) (fun n x y => by kernel_rfl) n
theorem lockstepref06_Has_m (n : Nat) : Meets Try.prog 21 (lockstepref06_Has_c n) :=
 con_meets (l := [(Code.loop (codeAt [1, 0, 1, 0, 0] (bodyOf Try.f21)), lockstepref06_Has_l2_k n)]) mixed Try.func21 (by kernel_rfl) (lockstepref06_Has_ok n) (by kernel_rfl) (by kernel_rfl) (by kernel_rfl) ⟨lockstepref06_Has_l2_m n, trivial⟩ (fun x => by kernel_rfl)
/-! 42 lockstep/lockstepref06.Make -/
noncomputable def lockstepref06_Make_l8 : Nat → (List (List Int)) → L_api_Graph → Int → Int → Int → Option (Sum L_api_Graph (Int × L_api_Graph))
 | 0, _, _, _, _, _ => none
 | n + 1, t0, t2, t4, t5, t6 =>
  if ((0 ≤ t5) ∧ (t5 < (t0.length : Int))) then
   if (decide (t6 < ((t0.getD t5.toNat []).length : Int)) = true) then
    if ((0 ≤ t5) ∧ (t5 < (t0.length : Int))) then
     if ((0 ≤ t6) ∧ (t6 < ((t0.getD t5.toNat []).length : Int))) then
      if (decide (((t0.getD t5.toNat []).getD t6.toNat 0) < 0) = false) then
       if ((0 ≤ t5) ∧ (t5 < (t0.length : Int))) then
        if ((0 ≤ t6) ∧ (t6 < ((t0.getD t5.toNat []).length : Int))) then
         if (decide (((t0.getD t5.toNat []).getD t6.toNat 0) ≥ t4) = false) then
          if (decide (t6 > 0) = true) then
           if ((0 ≤ t5) ∧ (t5 < (t0.length : Int))) then
            if ((0 ≤ t6) ∧ (t6 < ((t0.getD t5.toNat []).length : Int))) then
             if ((0 ≤ t5) ∧ (t5 < (t0.length : Int))) then
              if ((0 ≤ (IntKind.wrap .i64 (t6 - 1))) ∧ ((IntKind.wrap .i64 (t6 - 1)) < ((t0.getD t5.toNat []).length : Int))) then
               if (decide (((t0.getD t5.toNat []).getD t6.toNat 0) ≤ ((t0.getD t5.toNat []).getD ((IntKind.wrap .i64 (t6 - 1)).toNat) 0)) = true) then
                some (.inr (5, [], [], ()))
               else (lockstepref06_Make_l8 n t0 t2 t4 t5 (IntKind.wrap .i64 (t6 + 1)))
              else none
             else none
            else none
           else none
          else (lockstepref06_Make_l8 n t0 t2 t4 t5 (IntKind.wrap .i64 (t6 + 1)))
         else some (.inr (5, [], [], ()))
        else none
       else none
      else some (.inr (5, [], [], ()))
     else none
    else none
   else some (.inl t2)
  else none
noncomputable def lockstepref06_Make_l5 : Nat → (List (List Int)) → L_api_Graph → Int → Int → Option (Sum L_api_Graph (Int × L_api_Graph))
 | 0, _, _, _, _ => none
 | n + 1, t0, t2, t4, t5 =>
  if (decide (t5 < t4) = true) then
   (lockstepref06_Make_l8 n t0 t2 t4 t5 0).bind fun r0 =>
    match r0 with
     | .inl r1 =>
      (lockstepref06_Make_l5 n t0 r1 t4 (IntKind.wrap .i64 (t5 + 1)))
     | .inr r1 =>
      some (.inr r1)
  else some (.inl t2)
noncomputable def lockstepref06_Make_l17 : Nat → (List (List Int)) → L_api_Graph → Int → L_api_Graph → Int → Int → Option (L_api_Graph × L_api_Graph)
 | 0, _, _, _, _, _, _ => none
 | n + 1, t0, t2, t4, t7, t8, t9 =>
  if (decide (t9 < t4) = true) then
   if ((0 ≤ t9) ∧ (t9 < (t0.length : Int))) then
    (lockstepref06_Has n (t0.getD t9.toNat []) t8).bind fun r0 =>
     if (r0 = true) then
      if ((0 ≤ t8) ∧ (t8 < (t7.2.1.length : Int))) then
       if (((t7.2.1.getD t8.toNat []) ++ [t9]).length ≤ Ev.most) then
        if ((0 ≤ t8) ∧ (t8 < (t7.2.1.length : Int))) then
         if (t8.toNat = t8.toNat) then
          (lockstepref06_Make_l17 n t0 t2 t4 (t7.1, (t7.2.1.set t8.toNat ((t7.2.1.getD t8.toNat []) ++ [t9])), ()) t8 (IntKind.wrap .i64 (t9 + 1)))
         else none
        else none
       else none
      else none
     else (lockstepref06_Make_l17 n t0 t2 t4 t7 t8 (IntKind.wrap .i64 (t9 + 1)))
   else none
  else some (t2, t7)
noncomputable def lockstepref06_Make_l14 : Nat → (List (List Int)) → L_api_Graph → Int → L_api_Graph → Int → Option (L_api_Graph × L_api_Graph)
 | 0, _, _, _, _, _ => none
 | n + 1, t0, t2, t4, t7, t8 =>
  if (decide (t8 < t4) = true) then
   (lockstepref06_Make_l17 n t0 t2 t4 t7 t8 0).bind fun r0 =>
    (lockstepref06_Make_l14 n t0 r0.1 t4 r0.2 (IntKind.wrap .i64 (t8 + 1)))
  else some (t2, t7)
noncomputable def lockstepref06_Make (n : Nat) (t0 : (List (List Int))) : Option (L_api_Graph × Int) :=
 if (((t0.length : Int) == 0) = false) then
  if (decide ((t0.length : Int) > 64) = true) then
   some (([], [], ()), 5)
  else (lockstepref06_Make_l5 n t0 ([], [], ()) (t0.length : Int) 0).bind fun r0 =>
   match r0 with
    | .inl r1 =>
     if ((0 ≤ (t0.length : Int)) ∧ (((t0.length : Int) ≤ (t0.length : Int)) ∧ ((t0.length : Int) ≤ 8589934592))) then
      (lockstepref06_Make_l14 n t0 r1 (t0.length : Int) (t0, (List.replicate ((t0.length : Int).toNat) []), ()) 0).bind fun r2 =>
       some (r2.2, 0)
     else none
    | .inr r1 =>
     some (r1.2, r1.1)
 else some (([], [], ()), 5)
noncomputable def lockstepref06_Make_l8_h : Sh := ⟨[(0, (.val (.list (.list (.int .i64))))), (2, (.box (.val Y_api_Graph))), (4, (.val (.int .i64))), (5, (.val (.int .i64)))], [(6, (.val (.int .i64)))], [3, 6, 24, 25, 26, 27, 28, 29, 30, 31, 32, 33, 34, 35, 36, 37, 38, 39, 40, 41, 42, 43, 44, 45, 46, 47, 48, 49, 50, 51, 52, 53, 54, 55, 56, 57, 58, 59, 60, 61, 62, 63, 64, 65, 66, 67, 68, 69, 70, 71, 72, 73, 74], [⟨.exit 2, []⟩, ⟨.ret, [(3, (.val (.int .i64)))]⟩]⟩
noncomputable def lockstepref06_Make_l8_F (n : Nat) : lockstepref06_Make_l8_h.Fn := fun x y => lockstepref06_Make_l8 n x.1 x.2.1 x.2.2.1 x.2.2.2.1 y.1
noncomputable def lockstepref06_Make_l8_k (n : Nat) : Cut := lockstepref06_Make_l8_h.cut (lockstepref06_Make_l8_F n)
noncomputable def lockstepref06_Make_l5_h : Sh := ⟨[(0, (.val (.list (.list (.int .i64))))), (2, (.box (.val Y_api_Graph))), (4, (.val (.int .i64)))], [(5, (.val (.int .i64)))], [3, 5, 6, 19, 20, 21, 22, 23, 24, 25, 26, 27, 28, 29, 30, 31, 32, 33, 34, 35, 36, 37, 38, 39, 40, 41, 42, 43, 44, 45, 46, 47, 48, 49, 50, 51, 52, 53, 54, 55, 56, 57, 58, 59, 60, 61, 62, 63, 64, 65, 66, 67, 68, 69, 70, 71, 72, 73, 74], [⟨.exit 0, []⟩, ⟨.ret, [(3, (.val (.int .i64)))]⟩]⟩
noncomputable def lockstepref06_Make_l5_F (n : Nat) : lockstepref06_Make_l5_h.Fn := fun x y => lockstepref06_Make_l5 n x.1 x.2.1 x.2.2.1 y.1
noncomputable def lockstepref06_Make_l5_k (n : Nat) : Cut := lockstepref06_Make_l5_h.cut (lockstepref06_Make_l5_F n)
noncomputable def lockstepref06_Make_l17_h : Sh := ⟨[(0, (.val (.list (.list (.int .i64))))), (2, (.box (.val Y_api_Graph))), (4, (.val (.int .i64))), (7, (.box (.pair (.val (.list (.list (.int .i64)))) (.pair (.rows (.int .i64)) .unit)))), (8, (.val (.int .i64)))], [(9, (.val (.int .i64)))], [9, 84, 85, 86, 87, 88, 89, 90, 91, 92, 93, 94, 95, 96, 97, 98, 99, 100, 101, 102, 103, 104, 105, 106], [⟨.exit 6, []⟩]⟩
noncomputable def lockstepref06_Make_l17_F (n : Nat) : lockstepref06_Make_l17_h.Fn := fun x y => lockstepref06_Make_l17 n x.1 x.2.1 x.2.2.1 x.2.2.2.1 x.2.2.2.2.1 y.1
noncomputable def lockstepref06_Make_l17_k (n : Nat) : Cut := lockstepref06_Make_l17_h.cut (lockstepref06_Make_l17_F n)
noncomputable def lockstepref06_Make_l14_h : Sh := ⟨[(0, (.val (.list (.list (.int .i64))))), (2, (.box (.val Y_api_Graph))), (4, (.val (.int .i64))), (7, (.box (.pair (.val (.list (.list (.int .i64)))) (.pair (.rows (.int .i64)) .unit))))], [(8, (.val (.int .i64)))], [8, 9, 79, 80, 81, 82, 83, 84, 85, 86, 87, 88, 89, 90, 91, 92, 93, 94, 95, 96, 97, 98, 99, 100, 101, 102, 103, 104, 105, 106], [⟨.exit 4, []⟩]⟩
noncomputable def lockstepref06_Make_l14_F (n : Nat) : lockstepref06_Make_l14_h.Fn := fun x y => lockstepref06_Make_l14 n x.1 x.2.1 x.2.2.1 x.2.2.2.1 y.1
noncomputable def lockstepref06_Make_l14_k (n : Nat) : Cut := lockstepref06_Make_l14_h.cut (lockstepref06_Make_l14_F n)
noncomputable def lockstepref06_Make_e (n : Nat) : Env := mkEnv T_ A_ N_ [(21, lockstepref06_Has_c n)] [((0, 8, 9), lockstepref06_Make_l8_k n), ((0, 5, 6), lockstepref06_Make_l5_k n), ((0, 17, 18), lockstepref06_Make_l17_k n), ((0, 14, 15), lockstepref06_Make_l14_k n)] 108
noncomputable def lockstepref06_Make_c (n : Nat) : Con := mkCon [(.val (.list (.list (.int .i64))))] [(.val Y_api_Graph), (.val (.int .i64))] (fun x => lockstepref06_Make n x.1)
theorem lockstepref06_Make_ok (n : Nat) : EnvOK Try.prog (lockstepref06_Make_e n) := mkEnv_ok tabs ⟨⟨lockstepref06_Has_m n, fok21⟩, trivial⟩
theorem lockstepref06_Make_l8_m (n : Nat) : CutMeets Try.prog (.loop (codeAt [1, 1, 1, 0, 1, 0, 0, 1, 0, 0, 1, 0, 0] (bodyOf Try.f42))) 108 (lockstepref06_Make_l8_k n) :=
 loop_ok lockstepref06_Make_l8_h lockstepref06_Make_l8_F (E := lockstepref06_Make_e) (l := fun n => []) mixed (fun _ => rfl) lockstepref06_Make_ok (by kernel_rfl) (fun _ => by kernel_rfl) (fun n => trivial) (fun _ _ => rfl) (fun n x y => by kernel_rfl) n
theorem lockstepref06_Make_l5_m (n : Nat) : CutMeets Try.prog (.loop (codeAt [1, 1, 1, 0, 1, 0, 0] (bodyOf Try.f42))) 108 (lockstepref06_Make_l5_k n) :=
 loop_ok lockstepref06_Make_l5_h lockstepref06_Make_l5_F (E := lockstepref06_Make_e) (l := fun n => [(Code.loop (codeAt [1, 1, 1, 0, 1, 0, 0, 1, 0, 0, 1, 0, 0] (bodyOf Try.f42)), lockstepref06_Make_l8_k n)]) mixed (fun _ => rfl) lockstepref06_Make_ok (by kernel_rfl) (fun _ => by kernel_rfl) (fun n => ⟨lockstepref06_Make_l8_m n, trivial⟩) (fun _ _ => rfl) (fun n x y => by kernel_rfl) n
theorem lockstepref06_Make_l17_m (n : Nat) : CutMeets Try.prog (.loop (codeAt [1, 1, 1, 1, 1, 0, 1, 0, 0, 1, 0, 0, 1, 0, 0] (bodyOf Try.f42))) 108 (lockstepref06_Make_l17_k n) :=
 loop_ok lockstepref06_Make_l17_h lockstepref06_Make_l17_F (E := lockstepref06_Make_e) (l := fun n => []) mixed (fun _ => rfl) lockstepref06_Make_ok (by kernel_rfl) (fun _ => by kernel_rfl) (fun n => trivial) (fun _ _ => rfl) (fun n x y => by kernel_rfl) n
theorem lockstepref06_Make_l14_m (n : Nat) : CutMeets Try.prog (.loop (codeAt [1, 1, 1, 1, 1, 0, 1, 0, 0] (bodyOf Try.f42))) 108 (lockstepref06_Make_l14_k n) :=
 loop_ok lockstepref06_Make_l14_h lockstepref06_Make_l14_F (E := lockstepref06_Make_e) (l := fun n => [(Code.loop (codeAt [1, 1, 1, 1, 1, 0, 1, 0, 0, 1, 0, 0, 1, 0, 0] (bodyOf Try.f42)), lockstepref06_Make_l17_k n)]) mixed (fun _ => rfl) lockstepref06_Make_ok (by kernel_rfl) (fun _ => by kernel_rfl) (fun n => ⟨lockstepref06_Make_l17_m n, trivial⟩) (fun _ _ => rfl) (fun n x y => by kernel_rfl) n
theorem lockstepref06_Make_m (n : Nat) : Meets Try.prog 42 (lockstepref06_Make_c n) :=
 con_meets (l := [(Code.loop (codeAt [1, 1, 1, 0, 1, 0, 0] (bodyOf Try.f42)), lockstepref06_Make_l5_k n), (Code.loop (codeAt [1, 1, 1, 1, 1, 0, 1, 0, 0] (bodyOf Try.f42)), lockstepref06_Make_l14_k n)]) mixed Try.func42 (by kernel_rfl) (lockstepref06_Make_ok n) (by kernel_rfl) (by kernel_rfl) (by kernel_rfl) ⟨lockstepref06_Make_l5_m n, lockstepref06_Make_l14_m n, trivial⟩ (fun x => by kernel_rfl)
/-! 50 lockstep/lockstepref06.Same -/
noncomputable def lockstepref06_Same_l4 : Nat → L_api_Graph → L_api_Graph → Int → Option (Sum (L_api_Graph × L_api_Graph) (Bool × (L_api_Graph × L_api_Graph)))
 | 0, _, _, _ => none
 | n + 1, t2, t3, t5 =>
  if (decide (t5 < (t2.1.length : Int)) = true) then
   if ((0 ≤ t5) ∧ (t5 < (t2.1.length : Int))) then
    if ((0 ≤ t5) ∧ (t5 < (t3.1.length : Int))) then
     (lockstepref02_Ints n (t2.1.getD t5.toNat []) (t3.1.getD t5.toNat [])).bind fun r0 =>
      if ((!r0) = true) then
       some (.inr (false, t2, t3))
      else (lockstepref06_Same_l4 n t2 t3 (IntKind.wrap .i64 (t5 + 1)))
    else none
   else none
  else some (.inl (t2, t3))
noncomputable def lockstepref06_Same_l9 : Nat → L_api_Graph → L_api_Graph → Int → Option (Sum (L_api_Graph × L_api_Graph) (Bool × (L_api_Graph × L_api_Graph)))
 | 0, _, _, _ => none
 | n + 1, t2, t3, t6 =>
  if (decide (t6 < (t2.2.1.length : Int)) = true) then
   if ((0 ≤ t6) ∧ (t6 < (t2.2.1.length : Int))) then
    if ((0 ≤ t6) ∧ (t6 < (t3.2.1.length : Int))) then
     (lockstepref02_Ints n (t2.2.1.getD t6.toNat []) (t3.2.1.getD t6.toNat [])).bind fun r0 =>
      if ((!r0) = true) then
       some (.inr (false, t2, t3))
      else (lockstepref06_Same_l9 n t2 t3 (IntKind.wrap .i64 (t6 + 1)))
    else none
   else none
  else some (.inl (t2, t3))
noncomputable def lockstepref06_Same (n : Nat) (t0 : L_api_Graph) (t1 : L_api_Graph) : Option Bool :=
 if (((t0.1.length : Int) != (t1.1.length : Int)) = false) then
  if (((t0.2.1.length : Int) != (t1.2.1.length : Int)) = true) then
   some false
  else (lockstepref06_Same_l4 n t0 t1 0).bind fun r0 =>
   match r0 with
    | .inl r1 =>
     (lockstepref06_Same_l9 n r1.1 r1.2 0).bind fun r2 =>
      match r2 with
       | .inl r3 =>
        some true
       | .inr r3 =>
        some r3.1
    | .inr r1 =>
     some r1.1
 else some false
noncomputable def lockstepref06_Same_l4_h : Sh := ⟨[(2, (.box (.val Y_api_Graph))), (3, (.box (.val Y_api_Graph)))], [(5, (.val (.int .i64)))], [4, 5, 23, 24, 25, 26, 27, 28, 29, 30, 31, 32, 33, 34, 35, 36, 37, 38, 39, 40, 41], [⟨.exit 0, []⟩, ⟨.ret, [(4, (.val .bool))]⟩]⟩
noncomputable def lockstepref06_Same_l4_F (n : Nat) : lockstepref06_Same_l4_h.Fn := fun x y => lockstepref06_Same_l4 n x.1 x.2.1 y.1
noncomputable def lockstepref06_Same_l4_k (n : Nat) : Cut := lockstepref06_Same_l4_h.cut (lockstepref06_Same_l4_F n)
noncomputable def lockstepref06_Same_l9_h : Sh := ⟨[(2, (.box (.val Y_api_Graph))), (3, (.box (.val Y_api_Graph)))], [(6, (.val (.int .i64)))], [4, 6, 42, 43, 44, 45, 46, 47, 48, 49, 50, 51, 52, 53, 54, 55, 56, 57, 58, 59, 60], [⟨.exit 2, []⟩, ⟨.ret, [(4, (.val .bool))]⟩]⟩
noncomputable def lockstepref06_Same_l9_F (n : Nat) : lockstepref06_Same_l9_h.Fn := fun x y => lockstepref06_Same_l9 n x.1 x.2.1 y.1
noncomputable def lockstepref06_Same_l9_k (n : Nat) : Cut := lockstepref06_Same_l9_h.cut (lockstepref06_Same_l9_F n)
noncomputable def lockstepref06_Same_e (n : Nat) : Env := mkEnv T_ A_ N_ [(9, lockstepref02_Ints_c n)] [((0, 4, 5), lockstepref06_Same_l4_k n), ((0, 9, 10), lockstepref06_Same_l9_k n)] 61
noncomputable def lockstepref06_Same_c (n : Nat) : Con := mkCon [(.val Y_api_Graph), (.val Y_api_Graph)] [(.val .bool)] (fun x => lockstepref06_Same n x.1 x.2.1)
theorem lockstepref06_Same_ok (n : Nat) : EnvOK Try.prog (lockstepref06_Same_e n) := mkEnv_ok tabs ⟨⟨lockstepref02_Ints_m n, fok9⟩, trivial⟩
theorem lockstepref06_Same_l4_m (n : Nat) : CutMeets Try.prog (.loop (codeAt [1, 1, 0, 1, 0, 0] (bodyOf Try.f50))) 61 (lockstepref06_Same_l4_k n) :=
 loop_ok lockstepref06_Same_l4_h lockstepref06_Same_l4_F (E := lockstepref06_Same_e) (l := fun n => []) mixed (fun _ => rfl) lockstepref06_Same_ok (by kernel_rfl) (fun _ => by kernel_rfl) (fun n => trivial) (fun _ _ => rfl) (fun n x y => by kernel_rfl) n
theorem lockstepref06_Same_l9_m (n : Nat) : CutMeets Try.prog (.loop (codeAt [1, 1, 1, 0, 1, 0, 0] (bodyOf Try.f50))) 61 (lockstepref06_Same_l9_k n) :=
 loop_ok lockstepref06_Same_l9_h lockstepref06_Same_l9_F (E := lockstepref06_Same_e) (l := fun n => []) mixed (fun _ => rfl) lockstepref06_Same_ok (by kernel_rfl) (fun _ => by kernel_rfl) (fun n => trivial) (fun _ _ => rfl) (fun n x y => by kernel_rfl) n
theorem lockstepref06_Same_m (n : Nat) : Meets Try.prog 50 (lockstepref06_Same_c n) :=
 con_meets (l := [(Code.loop (codeAt [1, 1, 0, 1, 0, 0] (bodyOf Try.f50)), lockstepref06_Same_l4_k n), (Code.loop (codeAt [1, 1, 1, 0, 1, 0, 0] (bodyOf Try.f50)), lockstepref06_Same_l9_k n)]) mixed Try.func50 (by kernel_rfl) (lockstepref06_Same_ok n) (by kernel_rfl) (by kernel_rfl) (by kernel_rfl) ⟨lockstepref06_Same_l4_m n, lockstepref06_Same_l9_m n, trivial⟩ (fun x => by kernel_rfl)
/-! 26 lockstep/lockstepref06.May -/
noncomputable def lockstepref06_May (n : Nat) (t0 : L_api_Graph) : Option Bool :=
 (lockstepref06_Make n t0.1).bind fun r0 =>
  if ((r0.2 == 0) = true) then
   (lockstepref06_Same n r0.1 t0).bind fun r1 =>
    some r1
  else some false
noncomputable def lockstepref06_May_e (n : Nat) : Env := mkEnv T_ A_ N_ [(42, lockstepref06_Make_c n), (50, lockstepref06_Same_c n)] [] 18
noncomputable def lockstepref06_May_c (n : Nat) : Con := mkCon [(.val Y_api_Graph)] [(.val .bool)] (fun x => lockstepref06_May n x.1)
theorem lockstepref06_May_ok (n : Nat) : EnvOK Try.prog (lockstepref06_May_e n) := mkEnv_ok tabs ⟨⟨lockstepref06_Make_m n, fok42⟩, ⟨lockstepref06_Same_m n, fok50⟩, trivial⟩
theorem lockstepref06_May_m (n : Nat) : Meets Try.prog 26 (lockstepref06_May_c n) :=
 con_meets (l := []) mixed Try.func26 (by kernel_rfl) (lockstepref06_May_ok n) (by kernel_rfl) (by kernel_rfl) (by kernel_rfl) trivial (fun x => by kernel_rfl)
/-! 43 lockstep/lockstepref08.with -/
noncomputable def lockstepref08_with_l3 : Nat → Int → L_api_Graph → L_api_Graph → (List (List Int)) → Int → Option ((List (List Int)) × (L_api_Graph × L_api_Graph))
 | 0, _, _, _, _, _ => none
 | n + 1, t1, t2, t4, t5, t6 =>
  if (decide (t6 < (t5.length : Int)) = true) then
   if ((0 ≤ t6) ∧ (t6 < (t2.1.length : Int))) then
    if (([] ++ (t2.1.getD t6.toNat [])).length ≤ Ev.most) then
     if ((0 ≤ t6) ∧ (t6 < (t5.length : Int))) then
      (lockstepref08_with_l3 n t1 t2 t4 (t5.set t6.toNat ([] ++ (t2.1.getD t6.toNat []))) (IntKind.wrap .i64 (t6 + 1)))
     else none
    else none
   else none
  else some (t5, t2, t4)
noncomputable def lockstepref08_with (n : Nat) (t0 : L_api_Graph) (t1 : Int) : Option L_api_Graph :=
 if ((0 ≤ (t0.1.length : Int)) ∧ (((t0.1.length : Int) ≤ (t0.1.length : Int)) ∧ ((t0.1.length : Int) ≤ 8589934592))) then
  (lockstepref08_with_l3 n t1 t0 ([], [], ()) (List.replicate ((t0.1.length : Int).toNat) []) 0).bind fun r0 =>
   if ((0 ≤ t1) ∧ (t1 < (r0.1.length : Int))) then
    if (((r0.1.getD t1.toNat []) ++ [(IntKind.wrap .i64 ((r0.1.length : Int) - 1))]).length ≤ Ev.most) then
     if ((0 ≤ t1) ∧ (t1 < (r0.1.length : Int))) then
      if (t1.toNat = t1.toNat) then
       (lockstepref06_Make n (r0.1.set t1.toNat ((r0.1.getD t1.toNat []) ++ [(IntKind.wrap .i64 ((r0.1.length : Int) - 1))]))).bind fun r1 =>
        some r1.1
      else none
     else none
    else none
   else none
 else none
noncomputable def lockstepref08_with_l3_h : Sh := ⟨[(1, (.val (.int .i64))), (2, (.box (.val Y_api_Graph))), (4, (.box (.val Y_api_Graph)))], [(5, (.rows (.int .i64))), (6, (.val (.int .i64)))], [5, 6, 13, 14, 15, 16, 17, 18, 19, 20, 21, 22, 23, 24, 25, 26, 27, 28], [⟨.exit 0, [(5, (.rows (.int .i64)))]⟩]⟩
noncomputable def lockstepref08_with_l3_F (n : Nat) : lockstepref08_with_l3_h.Fn := fun x y => lockstepref08_with_l3 n x.1 x.2.1 x.2.2.1 y.1 y.2.1
noncomputable def lockstepref08_with_l3_k (n : Nat) : Cut := lockstepref08_with_l3_h.cut (lockstepref08_with_l3_F n)
noncomputable def lockstepref08_with_e (n : Nat) : Env := mkEnv T_ A_ N_ [(42, lockstepref06_Make_c n)] [((0, 3, 4), lockstepref08_with_l3_k n)] 47
noncomputable def lockstepref08_with_c (n : Nat) : Con := mkCon [(.val Y_api_Graph), (.val (.int .i64))] [(.val Y_api_Graph)] (fun x => lockstepref08_with n x.1 x.2.1)
theorem lockstepref08_with_ok (n : Nat) : EnvOK Try.prog (lockstepref08_with_e n) := mkEnv_ok tabs ⟨⟨lockstepref06_Make_m n, fok42⟩, trivial⟩
theorem lockstepref08_with_l3_m (n : Nat) : CutMeets Try.prog (.loop (codeAt [1, 1, 0, 1, 0, 0] (bodyOf Try.f43))) 47 (lockstepref08_with_l3_k n) :=
 loop_ok lockstepref08_with_l3_h lockstepref08_with_l3_F (E := lockstepref08_with_e) (l := fun n => []) mixed (fun _ => rfl) lockstepref08_with_ok (by kernel_rfl) (fun _ => by kernel_rfl) (fun n => trivial) (fun _ _ => rfl) (fun n x y => by kernel_rfl) n
theorem lockstepref08_with_m (n : Nat) : Meets Try.prog 43 (lockstepref08_with_c n) :=
 con_meets (l := [(Code.loop (codeAt [1, 1, 0, 1, 0, 0] (bodyOf Try.f43)), lockstepref08_with_l3_k n)]) mixed Try.func43 (by kernel_rfl) (lockstepref08_with_ok n) (by kernel_rfl) (by kernel_rfl) (by kernel_rfl) ⟨lockstepref08_with_l3_m n, trivial⟩ (fun x => by kernel_rfl)
/-! 20 lockstep/lockstepref06.Reach -/
noncomputable def lockstepref06_Reach_l12 : Nat → Int → L_api_Graph → Int → Int → (List Bool) → Int → Option ((List Bool) × L_api_Graph)
 | 0, _, _, _, _, _, _ => none
 | n + 1, t2, t3, t8, t9, t7, t10 =>
  if ((0 ≤ t9) ∧ (t9 < (t7.length : Int))) then
   if ((t7.getD t9.toNat false) = true) then
    if ((0 ≤ t9) ∧ (t9 < (t3.1.length : Int))) then
     if (decide (t10 < ((t3.1.getD t9.toNat []).length : Int)) = true) then
      if ((0 ≤ t9) ∧ (t9 < (t3.1.length : Int))) then
       if ((0 ≤ t10) ∧ (t10 < ((t3.1.getD t9.toNat []).length : Int))) then
        if ((((t3.1.getD t9.toNat []).getD t10.toNat 0) != t2) = true) then
         if ((0 ≤ t9) ∧ (t9 < (t3.1.length : Int))) then
          if ((0 ≤ t10) ∧ (t10 < ((t3.1.getD t9.toNat []).length : Int))) then
           if ((0 ≤ ((t3.1.getD t9.toNat []).getD t10.toNat 0)) ∧ (((t3.1.getD t9.toNat []).getD t10.toNat 0) < (t7.length : Int))) then
            (lockstepref06_Reach_l12 n t2 t3 t8 t9 (t7.set (((t3.1.getD t9.toNat []).getD t10.toNat 0).toNat) true) (IntKind.wrap .i64 (t10 + 1)))
           else none
          else none
         else none
        else (lockstepref06_Reach_l12 n t2 t3 t8 t9 t7 (IntKind.wrap .i64 (t10 + 1)))
       else none
      else none
     else some (t7, t3)
    else none
   else some (t7, t3)
  else none
noncomputable def lockstepref06_Reach_l9 : Nat → Int → L_api_Graph → Int → (List Bool) → Int → Option ((List Bool) × L_api_Graph)
 | 0, _, _, _, _, _ => none
 | n + 1, t2, t3, t8, t7, t9 =>
  if (decide (t9 < (t7.length : Int)) = true) then
   (lockstepref06_Reach_l12 n t2 t3 t8 t9 t7 0).bind fun r0 =>
    (lockstepref06_Reach_l9 n t2 r0.2 t8 r0.1 (IntKind.wrap .i64 (t9 + 1)))
  else some (t7, t3)
noncomputable def lockstepref06_Reach_l6 : Nat → Int → L_api_Graph → (List Bool) → Int → Option ((List Bool) × L_api_Graph)
 | 0, _, _, _, _ => none
 | n + 1, t2, t3, t7, t8 =>
  if (decide (t8 < (t7.length : Int)) = true) then
   (lockstepref06_Reach_l9 n t2 t3 t8 t7 0).bind fun r0 =>
    (lockstepref06_Reach_l6 n t2 r0.2 r0.1 (IntKind.wrap .i64 (t8 + 1)))
  else some (t7, t3)
noncomputable def lockstepref06_Reach (n : Nat) (t0 : L_api_Graph) (t1 : Int) (t2 : Int) : Option (List Bool) :=
 if ((0 ≤ (t0.1.length : Int)) ∧ (((t0.1.length : Int) ≤ (t0.1.length : Int)) ∧ ((t0.1.length : Int) ≤ 8589934592))) then
  if ((t1 == t2) = true) then
   some (List.replicate ((t0.1.length : Int).toNat) false)
  else if ((0 ≤ t1) ∧ (t1 < ((List.replicate ((t0.1.length : Int).toNat) false).length : Int))) then
   (lockstepref06_Reach_l6 n t2 t0 ((List.replicate ((t0.1.length : Int).toNat) false).set t1.toNat true) 0).bind fun r0 =>
    some r0.1
  else none
 else none
noncomputable def lockstepref06_Reach_l12_h : Sh := ⟨[(2, (.val (.int .i64))), (3, (.box (.val Y_api_Graph))), (8, (.val (.int .i64))), (9, (.val (.int .i64)))], [(7, (.own .bool)), (10, (.val (.int .i64)))], [7, 10, 34, 35, 36, 37, 38, 39, 40, 41, 42, 43, 44, 45, 46, 47, 48, 49, 50, 51, 52, 53, 54, 55, 56, 57, 58, 59, 60, 61, 62, 63, 64, 65, 66, 67, 68, 69], [⟨.exit 4, [(7, (.own .bool))]⟩]⟩
noncomputable def lockstepref06_Reach_l12_F (n : Nat) : lockstepref06_Reach_l12_h.Fn := fun x y => lockstepref06_Reach_l12 n x.1 x.2.1 x.2.2.1 x.2.2.2.1 y.1 y.2.1
noncomputable def lockstepref06_Reach_l12_k (n : Nat) : Cut := lockstepref06_Reach_l12_h.cut (lockstepref06_Reach_l12_F n)
noncomputable def lockstepref06_Reach_l9_h : Sh := ⟨[(2, (.val (.int .i64))), (3, (.box (.val Y_api_Graph))), (8, (.val (.int .i64)))], [(7, (.own .bool)), (9, (.val (.int .i64)))], [7, 9, 10, 28, 29, 30, 31, 32, 33, 34, 35, 36, 37, 38, 39, 40, 41, 42, 43, 44, 45, 46, 47, 48, 49, 50, 51, 52, 53, 54, 55, 56, 57, 58, 59, 60, 61, 62, 63, 64, 65, 66, 67, 68, 69], [⟨.exit 2, [(7, (.own .bool))]⟩]⟩
noncomputable def lockstepref06_Reach_l9_F (n : Nat) : lockstepref06_Reach_l9_h.Fn := fun x y => lockstepref06_Reach_l9 n x.1 x.2.1 x.2.2.1 y.1 y.2.1
noncomputable def lockstepref06_Reach_l9_k (n : Nat) : Cut := lockstepref06_Reach_l9_h.cut (lockstepref06_Reach_l9_F n)
noncomputable def lockstepref06_Reach_l6_h : Sh := ⟨[(2, (.val (.int .i64))), (3, (.box (.val Y_api_Graph)))], [(7, (.own .bool)), (8, (.val (.int .i64)))], [7, 8, 9, 10, 22, 23, 24, 25, 26, 27, 28, 29, 30, 31, 32, 33, 34, 35, 36, 37, 38, 39, 40, 41, 42, 43, 44, 45, 46, 47, 48, 49, 50, 51, 52, 53, 54, 55, 56, 57, 58, 59, 60, 61, 62, 63, 64, 65, 66, 67, 68, 69], [⟨.exit 0, [(7, (.own .bool))]⟩]⟩
noncomputable def lockstepref06_Reach_l6_F (n : Nat) : lockstepref06_Reach_l6_h.Fn := fun x y => lockstepref06_Reach_l6 n x.1 x.2.1 y.1 y.2.1
noncomputable def lockstepref06_Reach_l6_k (n : Nat) : Cut := lockstepref06_Reach_l6_h.cut (lockstepref06_Reach_l6_F n)
noncomputable def lockstepref06_Reach_e (n : Nat) : Env := mkEnv T_ A_ N_ [] [((0, 12, 13), lockstepref06_Reach_l12_k n), ((0, 9, 10), lockstepref06_Reach_l9_k n), ((0, 6, 7), lockstepref06_Reach_l6_k n)] 71
noncomputable def lockstepref06_Reach_c (n : Nat) : Con := mkCon [(.val Y_api_Graph), (.val (.int .i64)), (.val (.int .i64))] [(.val (.list .bool))] (fun x => lockstepref06_Reach n x.1 x.2.1 x.2.2.1)
theorem lockstepref06_Reach_ok (n : Nat) : EnvOK Try.prog (lockstepref06_Reach_e n) := mkEnv_ok tabs trivial
theorem lockstepref06_Reach_l12_m (n : Nat) : CutMeets Try.prog (.loop (codeAt [1, 1, 1, 1, 0, 1, 0, 0, 1, 0, 0, 1, 0, 0, 1, 0, 0, 1, 0, 0] (bodyOf Try.f20))) 71 (lockstepref06_Reach_l12_k n) :=
 loop_ok lockstepref06_Reach_l12_h lockstepref06_Reach_l12_F (E := lockstepref06_Reach_e) (l := fun n => []) mixed (fun _ => rfl) lockstepref06_Reach_ok (by kernel_rfl) (fun _ => by kernel_rfl) (fun n => trivial) (fun _ _ => rfl) (fun n x y => by kernel_rfl) n
theorem lockstepref06_Reach_l9_m (n : Nat) : CutMeets Try.prog (.loop (codeAt [1, 1, 1, 1, 0, 1, 0, 0, 1, 0, 0, 1, 0, 0] (bodyOf Try.f20))) 71 (lockstepref06_Reach_l9_k n) :=
 loop_ok lockstepref06_Reach_l9_h lockstepref06_Reach_l9_F (E := lockstepref06_Reach_e) (l := fun n => [(Code.loop (codeAt [1, 1, 1, 1, 0, 1, 0, 0, 1, 0, 0, 1, 0, 0, 1, 0, 0, 1, 0, 0] (bodyOf Try.f20)), lockstepref06_Reach_l12_k n)]) mixed (fun _ => rfl) lockstepref06_Reach_ok (by kernel_rfl) (fun _ => by kernel_rfl) (fun n => ⟨lockstepref06_Reach_l12_m n, trivial⟩) (fun _ _ => rfl) (fun n x y => by kernel_rfl) n
theorem lockstepref06_Reach_l6_m (n : Nat) : CutMeets Try.prog (.loop (codeAt [1, 1, 1, 1, 0, 1, 0, 0] (bodyOf Try.f20))) 71 (lockstepref06_Reach_l6_k n) :=
 loop_ok lockstepref06_Reach_l6_h lockstepref06_Reach_l6_F (E := lockstepref06_Reach_e) (l := fun n => [(Code.loop (codeAt [1, 1, 1, 1, 0, 1, 0, 0, 1, 0, 0, 1, 0, 0] (bodyOf Try.f20)), lockstepref06_Reach_l9_k n)]) mixed (fun _ => rfl) lockstepref06_Reach_ok (by kernel_rfl) (fun _ => by kernel_rfl) (fun n => ⟨lockstepref06_Reach_l9_m n, trivial⟩) (fun _ _ => rfl) (fun n x y => by kernel_rfl) n
theorem lockstepref06_Reach_m (n : Nat) : Meets Try.prog 20 (lockstepref06_Reach_c n) :=
 con_meets (l := [(Code.loop (codeAt [1, 1, 1, 1, 0, 1, 0, 0] (bodyOf Try.f20)), lockstepref06_Reach_l6_k n)]) mixed Try.func20 (by kernel_rfl) (lockstepref06_Reach_ok n) (by kernel_rfl) (by kernel_rfl) (by kernel_rfl) ⟨lockstepref06_Reach_l6_m n, trivial⟩ (fun x => by kernel_rfl)
/-! 19 lockstep/lockstepref08.Exit -/
noncomputable def lockstepref08_Exit_l6 : Nat → L_api_Graph → L_api_Graph → Int → L_api_Graph → Int → Option (L_api_Graph × (L_api_Graph × L_api_Graph))
 | 0, _, _, _, _, _ => none
 | n + 1, t1, t2, t4, t5, t7 =>
  if (decide (t7 < t4) = true) then
   if ((0 ≤ t7) ∧ (t7 < (t1.1.length : Int))) then
    if ((((t1.1.getD t7.toNat []).length : Int) == 0) = true) then
     (lockstepref08_with n t5 t7).bind fun r0 =>
      (lockstepref08_Exit_l6 n t1 t2 t4 r0 (IntKind.wrap .i64 (t7 + 1)))
    else (lockstepref08_Exit_l6 n t1 t2 t4 t5 (IntKind.wrap .i64 (t7 + 1)))
   else none
  else some (t1, t2, t5)
noncomputable def lockstepref08_Exit_l11 : Nat → L_api_Graph → Int → L_api_Graph → Int → Option (L_api_Graph × L_api_Graph)
 | 0, _, _, _, _ => none
 | n + 1, t2, t4, t5, t8 =>
  if (decide (t8 < t4) = true) then
   (lockstepref06_Reach n t5 t8 (-1)).bind fun r0 =>
    if ((0 ≤ t4) ∧ (t4 < (r0.length : Int))) then
     if ((!(r0.getD t4.toNat false)) = true) then
      (lockstepref08_with n t5 t8).bind fun r1 =>
       (lockstepref08_Exit_l11 n t2 t4 r1 (IntKind.wrap .i64 (t8 + 1)))
     else (lockstepref08_Exit_l11 n t2 t4 t5 (IntKind.wrap .i64 (t8 + 1)))
    else none
  else some (t2, t5)
noncomputable def lockstepref08_Exit (n : Nat) (t0 : L_api_Graph) : Option (L_api_Graph × Int) :=
 (lockstepref06_May n t0).bind fun r0 =>
  if ((!r0) = false) then
   if (decide ((t0.1.length : Int) ≥ 64) = true) then
    some (([], [], ()), 5)
   else if (([] ++ t0.1).length ≤ Ev.most) then
    if ((([] ++ t0.1) ++ [[]]).length ≤ Ev.most) then
     (lockstepref06_Make n (([] ++ t0.1) ++ [[]])).bind fun r1 =>
      (lockstepref08_Exit_l6 n t0 ([], [], ()) (t0.1.length : Int) r1.1 0).bind fun r2 =>
       (lockstepref08_Exit_l11 n r2.2.1 (t0.1.length : Int) r2.2.2 0).bind fun r3 =>
        some (r3.2, 0)
    else none
   else none
  else some (([], [], ()), 5)
noncomputable def lockstepref08_Exit_l6_h : Sh := ⟨[(1, (.box (.val Y_api_Graph))), (2, (.box (.val Y_api_Graph))), (4, (.val (.int .i64))), (5, (.box (.val Y_api_Graph)))], [(7, (.val (.int .i64)))], [7, 31, 32, 33, 34, 35, 36, 37, 38, 39, 40, 41, 42, 43, 44, 45], [⟨.exit 0, []⟩]⟩
noncomputable def lockstepref08_Exit_l6_F (n : Nat) : lockstepref08_Exit_l6_h.Fn := fun x y => lockstepref08_Exit_l6 n x.1 x.2.1 x.2.2.1 x.2.2.2.1 y.1
noncomputable def lockstepref08_Exit_l6_k (n : Nat) : Cut := lockstepref08_Exit_l6_h.cut (lockstepref08_Exit_l6_F n)
noncomputable def lockstepref08_Exit_l11_h : Sh := ⟨[(2, (.box (.val Y_api_Graph))), (4, (.val (.int .i64))), (5, (.box (.val Y_api_Graph)))], [(8, (.val (.int .i64)))], [8, 46, 47, 48, 49, 50, 51, 52, 53, 54, 55, 56, 57, 58, 59, 60], [⟨.exit 2, []⟩]⟩
noncomputable def lockstepref08_Exit_l11_F (n : Nat) : lockstepref08_Exit_l11_h.Fn := fun x y => lockstepref08_Exit_l11 n x.1 x.2.1 x.2.2.1 y.1
noncomputable def lockstepref08_Exit_l11_k (n : Nat) : Cut := lockstepref08_Exit_l11_h.cut (lockstepref08_Exit_l11_F n)
noncomputable def lockstepref08_Exit_e (n : Nat) : Env := mkEnv T_ A_ N_ [(42, lockstepref06_Make_c n), (26, lockstepref06_May_c n), (43, lockstepref08_with_c n), (20, lockstepref06_Reach_c n)] [((0, 6, 7), lockstepref08_Exit_l6_k n), ((0, 11, 12), lockstepref08_Exit_l11_k n)] 62
noncomputable def lockstepref08_Exit_c (n : Nat) : Con := mkCon [(.val Y_api_Graph)] [(.val Y_api_Graph), (.val (.int .i64))] (fun x => lockstepref08_Exit n x.1)
theorem lockstepref08_Exit_ok (n : Nat) : EnvOK Try.prog (lockstepref08_Exit_e n) := mkEnv_ok tabs ⟨⟨lockstepref06_Make_m n, fok42⟩, ⟨lockstepref06_May_m n, fok26⟩, ⟨lockstepref08_with_m n, fok43⟩, ⟨lockstepref06_Reach_m n, fok20⟩, trivial⟩
theorem lockstepref08_Exit_l6_m (n : Nat) : CutMeets Try.prog (.loop (codeAt [1, 1, 1, 1, 0, 1, 0, 0] (bodyOf Try.f19))) 62 (lockstepref08_Exit_l6_k n) :=
 loop_ok lockstepref08_Exit_l6_h lockstepref08_Exit_l6_F (E := lockstepref08_Exit_e) (l := fun n => []) mixed (fun _ => rfl) lockstepref08_Exit_ok (by kernel_rfl) (fun _ => by kernel_rfl) (fun n => trivial) (fun _ _ => rfl) (fun n x y => by kernel_rfl) n
theorem lockstepref08_Exit_l11_m (n : Nat) : CutMeets Try.prog (.loop (codeAt [1, 1, 1, 1, 1, 0, 1, 0, 0] (bodyOf Try.f19))) 62 (lockstepref08_Exit_l11_k n) :=
 loop_ok lockstepref08_Exit_l11_h lockstepref08_Exit_l11_F (E := lockstepref08_Exit_e) (l := fun n => []) mixed (fun _ => rfl) lockstepref08_Exit_ok (by kernel_rfl) (fun _ => by kernel_rfl) (fun n => trivial) (fun _ _ => rfl) (fun n x y => by kernel_rfl) n
theorem lockstepref08_Exit_m (n : Nat) : Meets Try.prog 19 (lockstepref08_Exit_c n) :=
 con_meets (l := [(Code.loop (codeAt [1, 1, 1, 1, 0, 1, 0, 0] (bodyOf Try.f19)), lockstepref08_Exit_l6_k n), (Code.loop (codeAt [1, 1, 1, 1, 1, 0, 1, 0, 0] (bodyOf Try.f19)), lockstepref08_Exit_l11_k n)]) mixed Try.func19 (by kernel_rfl) (lockstepref08_Exit_ok n) (by kernel_rfl) (by kernel_rfl) (by kernel_rfl) ⟨lockstepref08_Exit_l6_m n, lockstepref08_Exit_l11_m n, trivial⟩ (fun x => by kernel_rfl)
/-! 8 lockstep/lockstepref09.All -/
noncomputable def lockstepref09_All_l12 : Nat → L_api_Graph → L_api_Graph → Int → Int → (List L_api_Dep) → (List (List Bool)) → Int → Option ((List L_api_Dep) × ((List (List Bool)) × (L_api_Graph × L_api_Graph)))
 | 0, _, _, _, _, _, _, _ => none
 | n + 1, t1, t4, t6, t8, t3, t7, t9 =>
  if (decide (t9 < t6) = true) then
   if ((0 ≤ t8) ∧ (t8 < (t7.length : Int))) then
    (lockstepref06_Reach n t4 t9 t8).bind fun r0 =>
     if ((0 ≤ t6) ∧ (t6 < (r0.length : Int))) then
      if ((0 ≤ t9) ∧ (t9 < ((t7.getD t8.toNat []).length : Int))) then
       (lockstepref09_All_l12 n t1 t4 t6 t8 t3 (t7.set t8.toNat ((t7.getD t8.toNat []).set t9.toNat (!(r0.getD t6.toNat false)))) (IntKind.wrap .i64 (t9 + 1)))
      else none
     else none
   else none
  else some (t3, t7, t1, t4)
noncomputable def lockstepref09_All_l8 : Nat → L_api_Graph → L_api_Graph → Int → (List L_api_Dep) → (List (List Bool)) → Int → Option ((List L_api_Dep) × ((List (List Bool)) × (L_api_Graph × L_api_Graph)))
 | 0, _, _, _, _, _, _ => none
 | n + 1, t1, t4, t6, t3, t7, t8 =>
  if (decide (t8 < t6) = true) then
   if ((0 ≤ t6) ∧ ((t6 ≤ t6) ∧ (t6 ≤ 8589934592))) then
    if ((0 ≤ t8) ∧ (t8 < (t7.length : Int))) then
     (lockstepref09_All_l12 n t1 t4 t6 t8 t3 (t7.set t8.toNat (List.replicate t6.toNat false)) 0).bind fun r0 =>
      (lockstepref09_All_l8 n r0.2.2.1 r0.2.2.2 t6 r0.1 r0.2.1 (IntKind.wrap .i64 (t8 + 1)))
    else none
   else none
  else some (t3, t7, t1, t4)
noncomputable def lockstepref09_All_l22 : Nat → L_api_Graph → L_api_Graph → Int → Int → Int → (List L_api_Dep) → (List (List Bool)) → Int → Option ((List L_api_Dep) × ((List (List Bool)) × (L_api_Graph × L_api_Graph)))
 | 0, _, _, _, _, _, _, _, _ => none
 | n + 1, t1, t4, t6, t10, t11, t3, t7, t12 =>
  if (decide (t12 < t6) = true) then
   if ((0 ≤ t11) ∧ (t11 < (t4.1.length : Int))) then
    if (decide (((t4.1.getD t11.toNat []).length : Int) > 1) = true) then
     if ((0 ≤ t11) ∧ (t11 < (t1.1.length : Int))) then
      (lockstepref06_Has n (t1.1.getD t11.toNat []) t12).bind fun r0 =>
       if (r0 = true) then
        if ((0 ≤ t10) ∧ (t10 < (t7.length : Int))) then
         if ((0 ≤ t12) ∧ (t12 < ((t7.getD t10.toNat []).length : Int))) then
          if (((t7.getD t10.toNat []).getD t12.toNat false) = true) then
           if ((t10 == t11) = false) then
            if ((0 ≤ t10) ∧ (t10 < (t7.length : Int))) then
             if ((0 ≤ t11) ∧ (t11 < (((t7.set t10.toNat (t7.getD t10.toNat [])).getD t10.toNat []).length : Int))) then
              if ((!(((t7.set t10.toNat (t7.getD t10.toNat [])).getD t10.toNat []).getD t11.toNat false)) = true) then
               if ((t3 ++ [(t10, t11, t12, ())]).length ≤ Ev.most) then
                (lockstepref09_All_l22 n t1 t4 t6 t10 t11 (t3 ++ [(t10, t11, t12, ())]) ((t7.set t10.toNat (t7.getD t10.toNat [])).set t10.toNat ((t7.set t10.toNat (t7.getD t10.toNat [])).getD t10.toNat [])) (IntKind.wrap .i64 (t12 + 1)))
               else none
              else (lockstepref09_All_l22 n t1 t4 t6 t10 t11 t3 ((t7.set t10.toNat (t7.getD t10.toNat [])).set t10.toNat ((t7.set t10.toNat (t7.getD t10.toNat [])).getD t10.toNat [])) (IntKind.wrap .i64 (t12 + 1)))
             else none
            else none
           else if ((t3 ++ [(t10, t11, t12, ())]).length ≤ Ev.most) then
            (lockstepref09_All_l22 n t1 t4 t6 t10 t11 (t3 ++ [(t10, t11, t12, ())]) (t7.set t10.toNat (t7.getD t10.toNat [])) (IntKind.wrap .i64 (t12 + 1)))
           else none
          else (lockstepref09_All_l22 n t1 t4 t6 t10 t11 t3 (t7.set t10.toNat (t7.getD t10.toNat [])) (IntKind.wrap .i64 (t12 + 1)))
         else none
        else none
       else (lockstepref09_All_l22 n t1 t4 t6 t10 t11 t3 t7 (IntKind.wrap .i64 (t12 + 1)))
     else none
    else some (t3, t7, t1, t4)
   else none
  else some (t3, t7, t1, t4)
noncomputable def lockstepref09_All_l19 : Nat → L_api_Graph → L_api_Graph → Int → Int → (List L_api_Dep) → (List (List Bool)) → Int → Option ((List L_api_Dep) × ((List (List Bool)) × (L_api_Graph × L_api_Graph)))
 | 0, _, _, _, _, _, _, _ => none
 | n + 1, t1, t4, t6, t10, t3, t7, t11 =>
  if (decide (t11 < t6) = true) then
   (lockstepref09_All_l22 n t1 t4 t6 t10 t11 t3 t7 0).bind fun r0 =>
    (lockstepref09_All_l19 n r0.2.2.1 r0.2.2.2 t6 t10 r0.1 r0.2.1 (IntKind.wrap .i64 (t11 + 1)))
  else some (t3, t7, t1, t4)
noncomputable def lockstepref09_All_l16 : Nat → L_api_Graph → L_api_Graph → Int → (List L_api_Dep) → (List (List Bool)) → Int → Option ((List L_api_Dep) × (L_api_Graph × L_api_Graph))
 | 0, _, _, _, _, _, _ => none
 | n + 1, t1, t4, t6, t3, t7, t10 =>
  if (decide (t10 < t6) = true) then
   (lockstepref09_All_l19 n t1 t4 t6 t10 t3 t7 0).bind fun r0 =>
    (lockstepref09_All_l16 n r0.2.2.1 r0.2.2.2 t6 r0.1 r0.2.1 (IntKind.wrap .i64 (t10 + 1)))
  else some (t3, t1, t4)
noncomputable def lockstepref09_All (n : Nat) (t0 : L_api_Graph) : Option (List L_api_Dep) :=
 (lockstepref08_Exit n t0).bind fun r0 =>
  if ((r0.2 != 0) = true) then
   some []
  else if ((0 ≤ (t0.1.length : Int)) ∧ (((t0.1.length : Int) ≤ (t0.1.length : Int)) ∧ ((t0.1.length : Int) ≤ 8589934592))) then
   (lockstepref09_All_l8 n t0 r0.1 (t0.1.length : Int) [] (List.replicate ((t0.1.length : Int).toNat) []) 0).bind fun r1 =>
    (lockstepref09_All_l16 n r1.2.2.1 r1.2.2.2 (t0.1.length : Int) r1.1 r1.2.1 0).bind fun r2 =>
     some r2.1
  else none
noncomputable def lockstepref09_All_l12_h : Sh := ⟨[(1, (.box (.val Y_api_Graph))), (4, (.box (.val Y_api_Graph))), (6, (.val (.int .i64))), (8, (.val (.int .i64)))], [(3, (.own Y_api_Dep)), (7, (.rows .bool)), (9, (.val (.int .i64)))], [3, 7, 9, 35, 36, 37, 38, 39, 40, 41, 42, 43, 44, 45, 46, 47, 48, 49, 50, 51, 52, 53], [⟨.exit 2, [(3, (.own Y_api_Dep)), (7, (.rows .bool))]⟩]⟩
noncomputable def lockstepref09_All_l12_F (n : Nat) : lockstepref09_All_l12_h.Fn := fun x y => lockstepref09_All_l12 n x.1 x.2.1 x.2.2.1 x.2.2.2.1 y.1 y.2.1 y.2.2.1
noncomputable def lockstepref09_All_l12_k (n : Nat) : Cut := lockstepref09_All_l12_h.cut (lockstepref09_All_l12_F n)
noncomputable def lockstepref09_All_l8_h : Sh := ⟨[(1, (.box (.val Y_api_Graph))), (4, (.box (.val Y_api_Graph))), (6, (.val (.int .i64)))], [(3, (.own Y_api_Dep)), (7, (.rows .bool)), (8, (.val (.int .i64)))], [3, 7, 8, 9, 25, 26, 27, 28, 29, 30, 31, 32, 33, 34, 35, 36, 37, 38, 39, 40, 41, 42, 43, 44, 45, 46, 47, 48, 49, 50, 51, 52, 53], [⟨.exit 0, [(3, (.own Y_api_Dep)), (7, (.rows .bool))]⟩]⟩
noncomputable def lockstepref09_All_l8_F (n : Nat) : lockstepref09_All_l8_h.Fn := fun x y => lockstepref09_All_l8 n x.1 x.2.1 x.2.2.1 y.1 y.2.1 y.2.2.1
noncomputable def lockstepref09_All_l8_k (n : Nat) : Cut := lockstepref09_All_l8_h.cut (lockstepref09_All_l8_F n)
noncomputable def lockstepref09_All_l22_h : Sh := ⟨[(1, (.box (.val Y_api_Graph))), (4, (.box (.val Y_api_Graph))), (6, (.val (.int .i64))), (10, (.val (.int .i64))), (11, (.val (.int .i64)))], [(3, (.own Y_api_Dep)), (7, (.rows .bool)), (12, (.val (.int .i64)))], [3, 7, 12, 64, 65, 66, 67, 68, 69, 70, 71, 72, 73, 74, 75, 76, 77, 78, 79, 80, 81, 82, 83, 84, 85, 86, 87, 88, 89, 90, 91, 92, 93, 94, 95, 96, 97, 98, 99, 100, 101, 102, 103, 104, 105, 106, 107, 108, 109, 110, 111, 112, 113, 114, 115], [⟨.exit 8, [(3, (.own Y_api_Dep)), (7, (.rows .bool))]⟩]⟩
noncomputable def lockstepref09_All_l22_F (n : Nat) : lockstepref09_All_l22_h.Fn := fun x y => lockstepref09_All_l22 n x.1 x.2.1 x.2.2.1 x.2.2.2.1 x.2.2.2.2.1 y.1 y.2.1 y.2.2.1
noncomputable def lockstepref09_All_l22_k (n : Nat) : Cut := lockstepref09_All_l22_h.cut (lockstepref09_All_l22_F n)
noncomputable def lockstepref09_All_l19_h : Sh := ⟨[(1, (.box (.val Y_api_Graph))), (4, (.box (.val Y_api_Graph))), (6, (.val (.int .i64))), (10, (.val (.int .i64)))], [(3, (.own Y_api_Dep)), (7, (.rows .bool)), (11, (.val (.int .i64)))], [3, 7, 11, 12, 59, 60, 61, 62, 63, 64, 65, 66, 67, 68, 69, 70, 71, 72, 73, 74, 75, 76, 77, 78, 79, 80, 81, 82, 83, 84, 85, 86, 87, 88, 89, 90, 91, 92, 93, 94, 95, 96, 97, 98, 99, 100, 101, 102, 103, 104, 105, 106, 107, 108, 109, 110, 111, 112, 113, 114, 115], [⟨.exit 6, [(3, (.own Y_api_Dep)), (7, (.rows .bool))]⟩]⟩
noncomputable def lockstepref09_All_l19_F (n : Nat) : lockstepref09_All_l19_h.Fn := fun x y => lockstepref09_All_l19 n x.1 x.2.1 x.2.2.1 x.2.2.2.1 y.1 y.2.1 y.2.2.1
noncomputable def lockstepref09_All_l19_k (n : Nat) : Cut := lockstepref09_All_l19_h.cut (lockstepref09_All_l19_F n)
noncomputable def lockstepref09_All_l16_h : Sh := ⟨[(1, (.box (.val Y_api_Graph))), (4, (.box (.val Y_api_Graph))), (6, (.val (.int .i64)))], [(3, (.own Y_api_Dep)), (7, (.rows .bool)), (10, (.val (.int .i64)))], [3, 7, 10, 11, 12, 54, 55, 56, 57, 58, 59, 60, 61, 62, 63, 64, 65, 66, 67, 68, 69, 70, 71, 72, 73, 74, 75, 76, 77, 78, 79, 80, 81, 82, 83, 84, 85, 86, 87, 88, 89, 90, 91, 92, 93, 94, 95, 96, 97, 98, 99, 100, 101, 102, 103, 104, 105, 106, 107, 108, 109, 110, 111, 112, 113, 114, 115], [⟨.exit 4, [(3, (.own Y_api_Dep))]⟩]⟩
noncomputable def lockstepref09_All_l16_F (n : Nat) : lockstepref09_All_l16_h.Fn := fun x y => lockstepref09_All_l16 n x.1 x.2.1 x.2.2.1 y.1 y.2.1 y.2.2.1
noncomputable def lockstepref09_All_l16_k (n : Nat) : Cut := lockstepref09_All_l16_h.cut (lockstepref09_All_l16_F n)
noncomputable def lockstepref09_All_e (n : Nat) : Env := mkEnv T_ A_ N_ [(21, lockstepref06_Has_c n), (20, lockstepref06_Reach_c n), (19, lockstepref08_Exit_c n)] [((0, 12, 13), lockstepref09_All_l12_k n), ((0, 8, 9), lockstepref09_All_l8_k n), ((0, 22, 23), lockstepref09_All_l22_k n), ((0, 19, 20), lockstepref09_All_l19_k n), ((0, 16, 17), lockstepref09_All_l16_k n)] 117
noncomputable def lockstepref09_All_c (n : Nat) : Con := mkCon [(.val Y_api_Graph)] [(.val (.list Y_api_Dep))] (fun x => lockstepref09_All n x.1)
theorem lockstepref09_All_ok (n : Nat) : EnvOK Try.prog (lockstepref09_All_e n) := mkEnv_ok tabs ⟨⟨lockstepref06_Has_m n, fok21⟩, ⟨lockstepref06_Reach_m n, fok20⟩, ⟨lockstepref08_Exit_m n, fok19⟩, trivial⟩
theorem lockstepref09_All_l12_m (n : Nat) : CutMeets Try.prog (.loop (codeAt [1, 1, 1, 1, 1, 1, 0, 1, 0, 0, 1, 0, 0, 1, 1, 0, 0] (bodyOf Try.f8))) 117 (lockstepref09_All_l12_k n) :=
 loop_ok lockstepref09_All_l12_h lockstepref09_All_l12_F (E := lockstepref09_All_e) (l := fun n => []) mixed (fun _ => rfl) lockstepref09_All_ok (by kernel_rfl) (fun _ => by kernel_rfl) (fun n => trivial) (fun _ _ => rfl) (fun n x y => by kernel_rfl) n
theorem lockstepref09_All_l8_m (n : Nat) : CutMeets Try.prog (.loop (codeAt [1, 1, 1, 1, 1, 1, 0, 1, 0, 0] (bodyOf Try.f8))) 117 (lockstepref09_All_l8_k n) :=
 loop_ok lockstepref09_All_l8_h lockstepref09_All_l8_F (E := lockstepref09_All_e) (l := fun n => [(Code.loop (codeAt [1, 1, 1, 1, 1, 1, 0, 1, 0, 0, 1, 0, 0, 1, 1, 0, 0] (bodyOf Try.f8)), lockstepref09_All_l12_k n)]) mixed (fun _ => rfl) lockstepref09_All_ok (by kernel_rfl) (fun _ => by kernel_rfl) (fun n => ⟨lockstepref09_All_l12_m n, trivial⟩) (fun _ _ => rfl) (fun n x y => by kernel_rfl) n
theorem lockstepref09_All_l22_m (n : Nat) : CutMeets Try.prog (.loop (codeAt [1, 1, 1, 1, 1, 1, 1, 0, 1, 0, 0, 1, 0, 0, 1, 0, 0, 1, 0, 0, 1, 0, 0] (bodyOf Try.f8))) 117 (lockstepref09_All_l22_k n) :=
 loop_ok lockstepref09_All_l22_h lockstepref09_All_l22_F (E := lockstepref09_All_e) (l := fun n => []) mixed (fun _ => rfl) lockstepref09_All_ok (by kernel_rfl) (fun _ => by kernel_rfl) (fun n => trivial) (fun _ _ => rfl) (fun n x y => by kernel_rfl) n
theorem lockstepref09_All_l19_m (n : Nat) : CutMeets Try.prog (.loop (codeAt [1, 1, 1, 1, 1, 1, 1, 0, 1, 0, 0, 1, 0, 0, 1, 0, 0] (bodyOf Try.f8))) 117 (lockstepref09_All_l19_k n) :=
 loop_ok lockstepref09_All_l19_h lockstepref09_All_l19_F (E := lockstepref09_All_e) (l := fun n => [(Code.loop (codeAt [1, 1, 1, 1, 1, 1, 1, 0, 1, 0, 0, 1, 0, 0, 1, 0, 0, 1, 0, 0, 1, 0, 0] (bodyOf Try.f8)), lockstepref09_All_l22_k n)]) mixed (fun _ => rfl) lockstepref09_All_ok (by kernel_rfl) (fun _ => by kernel_rfl) (fun n => ⟨lockstepref09_All_l22_m n, trivial⟩) (fun _ _ => rfl) (fun n x y => by kernel_rfl) n
theorem lockstepref09_All_l16_m (n : Nat) : CutMeets Try.prog (.loop (codeAt [1, 1, 1, 1, 1, 1, 1, 0, 1, 0, 0] (bodyOf Try.f8))) 117 (lockstepref09_All_l16_k n) :=
 loop_ok lockstepref09_All_l16_h lockstepref09_All_l16_F (E := lockstepref09_All_e) (l := fun n => [(Code.loop (codeAt [1, 1, 1, 1, 1, 1, 1, 0, 1, 0, 0, 1, 0, 0, 1, 0, 0] (bodyOf Try.f8)), lockstepref09_All_l19_k n)]) mixed (fun _ => rfl) lockstepref09_All_ok (by kernel_rfl) (fun _ => by kernel_rfl) (fun n => ⟨lockstepref09_All_l19_m n, trivial⟩) (fun _ _ => rfl) (fun n x y => by kernel_rfl) n
theorem lockstepref09_All_m (n : Nat) : Meets Try.prog 8 (lockstepref09_All_c n) :=
 con_meets (l := [(Code.loop (codeAt [1, 1, 1, 1, 1, 1, 0, 1, 0, 0] (bodyOf Try.f8)), lockstepref09_All_l8_k n), (Code.loop (codeAt [1, 1, 1, 1, 1, 1, 1, 0, 1, 0, 0] (bodyOf Try.f8)), lockstepref09_All_l16_k n)]) mixed Try.func8 (by kernel_rfl) (lockstepref09_All_ok n) (by kernel_rfl) (by kernel_rfl) (by kernel_rfl) ⟨lockstepref09_All_l8_m n, lockstepref09_All_l16_m n, trivial⟩ (fun x => by kernel_rfl)
/-! 6 lockstep/lockstepref09.Same -/
noncomputable def lockstepref09_Same_l4 : Nat → (List L_api_Dep) → (List L_api_Dep) → Int → Option (Sum Unit Bool)
 | 0, _, _, _ => none
 | n + 1, t0, t1, t5 =>
  if (decide (t5 < (t0.length : Int)) = true) then
   if ((0 ≤ t5) ∧ (t5 < (t0.length : Int))) then
    if ((0 ≤ t5) ∧ (t5 < (t1.length : Int))) then
     if ((!(((t0.getD t5.toNat (0, 0, 0, ())).1 == (t1.getD t5.toNat (0, 0, 0, ())).1) && ((((t0.getD t5.toNat (0, 0, 0, ())).2).1 == ((t1.getD t5.toNat (0, 0, 0, ())).2).1) && ((((t0.getD t5.toNat (0, 0, 0, ())).2).2).1 == (((t1.getD t5.toNat (0, 0, 0, ())).2).2).1)))) = true) then
      some (.inr false)
     else (lockstepref09_Same_l4 n t0 t1 (IntKind.wrap .i64 (t5 + 1)))
    else none
   else none
  else some (.inl ())
noncomputable def lockstepref09_Same (n : Nat) (t0 : (List L_api_Dep)) (t1 : (List L_api_Dep)) : Option Bool :=
 if (((t0.length : Int) != (t1.length : Int)) = true) then
  some false
 else (lockstepref09_Same_l4 n t0 t1 0).bind fun r0 =>
  match r0 with
   | .inl r1 =>
    some true
   | .inr r1 =>
    some r1
noncomputable def lockstepref09_Same_l4_h : Sh := ⟨[(0, (.val (.list Y_api_Dep))), (1, (.val (.list Y_api_Dep)))], [(5, (.val (.int .i64)))], [4, 5, 11, 12, 13, 14, 15, 16, 17, 18, 19, 20, 21, 22, 23, 24, 25], [⟨.exit 0, []⟩, ⟨.ret, [(4, (.val .bool))]⟩]⟩
noncomputable def lockstepref09_Same_l4_F (n : Nat) : lockstepref09_Same_l4_h.Fn := fun x y => lockstepref09_Same_l4 n x.1 x.2.1 y.1
noncomputable def lockstepref09_Same_l4_k (n : Nat) : Cut := lockstepref09_Same_l4_h.cut (lockstepref09_Same_l4_F n)
noncomputable def lockstepref09_Same_e (n : Nat) : Env := mkEnv T_ A_ N_ [] [((0, 4, 5), lockstepref09_Same_l4_k n)] 26
noncomputable def lockstepref09_Same_c (n : Nat) : Con := mkCon [(.val (.list Y_api_Dep)), (.val (.list Y_api_Dep))] [(.val .bool)] (fun x => lockstepref09_Same n x.1 x.2.1)
theorem lockstepref09_Same_ok (n : Nat) : EnvOK Try.prog (lockstepref09_Same_e n) := mkEnv_ok tabs trivial
theorem lockstepref09_Same_l4_m (n : Nat) : CutMeets Try.prog (.loop (codeAt [1, 1, 0, 1, 0, 0] (bodyOf Try.f6))) 26 (lockstepref09_Same_l4_k n) :=
 loop_ok lockstepref09_Same_l4_h lockstepref09_Same_l4_F (E := lockstepref09_Same_e) (l := fun n => []) mixed (fun _ => rfl) lockstepref09_Same_ok (by kernel_rfl) (fun _ => by kernel_rfl) (fun n => trivial) (fun _ _ => rfl) (fun n x y => by kernel_rfl) n
theorem lockstepref09_Same_m (n : Nat) : Meets Try.prog 6 (lockstepref09_Same_c n) :=
 con_meets (l := [(Code.loop (codeAt [1, 1, 0, 1, 0, 0] (bodyOf Try.f6)), lockstepref09_Same_l4_k n)]) mixed Try.func6 (by kernel_rfl) (lockstepref09_Same_ok n) (by kernel_rfl) (by kernel_rfl) (by kernel_rfl) ⟨lockstepref09_Same_l4_m n, trivial⟩ (fun x => by kernel_rfl)
/-! 27 lockstep/lockstepref07.Over -/
noncomputable def lockstepref07_Over (n : Nat) (t0 : L_api_Graph) (t1 : Int) (t2 : Int) (t3 : Int) : Option Bool :=
 (lockstepref06_Reach n t0 t1 (-1)).bind fun r0 =>
  if ((0 ≤ t3) ∧ (t3 < (r0.length : Int))) then
   if ((r0.getD t3.toNat false) = true) then
    (lockstepref06_Reach n t0 t1 t2).bind fun r1 =>
     if ((0 ≤ t3) ∧ (t3 < (r1.length : Int))) then
      some (!(r1.getD t3.toNat false))
     else none
   else some false
  else none
noncomputable def lockstepref07_Over_e (n : Nat) : Env := mkEnv T_ A_ N_ [(20, lockstepref06_Reach_c n)] [] 25
noncomputable def lockstepref07_Over_c (n : Nat) : Con := mkCon [(.val Y_api_Graph), (.val (.int .i64)), (.val (.int .i64)), (.val (.int .i64))] [(.val .bool)] (fun x => lockstepref07_Over n x.1 x.2.1 x.2.2.1 x.2.2.2.1)
theorem lockstepref07_Over_ok (n : Nat) : EnvOK Try.prog (lockstepref07_Over_e n) := mkEnv_ok tabs ⟨⟨lockstepref06_Reach_m n, fok20⟩, trivial⟩
theorem lockstepref07_Over_m (n : Nat) : Meets Try.prog 27 (lockstepref07_Over_c n) :=
 con_meets (l := []) mixed Try.func27 (by kernel_rfl) (lockstepref07_Over_ok n) (by kernel_rfl) (by kernel_rfl) (by kernel_rfl) trivial (fun x => by kernel_rfl)
/-! 11 lockstep/lockstepref09.Frontier -/
noncomputable def lockstepref09_Frontier_l9 : Nat → Int → L_api_Graph → Int → (List Int) → Bool → Int → Option ((List Int) × (Bool × L_api_Graph))
 | 0, _, _, _, _, _, _ => none
 | n + 1, t1, t2, t6, t5, t7, t8 =>
  if (decide (t8 < (t2.1.length : Int)) = true) then
   if (t7 = false) then
    if ((0 ≤ t8) ∧ (t8 < (t2.1.length : Int))) then
     (lockstepref06_Has n (t2.1.getD t8.toNat []) t6).bind fun r0 =>
      if (r0 = true) then
       (lockstepref07_Over n t2 0 t1 t8).bind fun r1 =>
        (lockstepref09_Frontier_l9 n t1 t2 t6 t5 r1 (IntKind.wrap .i64 (t8 + 1)))
      else (lockstepref09_Frontier_l9 n t1 t2 t6 t5 false (IntKind.wrap .i64 (t8 + 1)))
    else none
   else (lockstepref09_Frontier_l9 n t1 t2 t6 t5 true (IntKind.wrap .i64 (t8 + 1)))
  else some (t5, t7, t2)
noncomputable def lockstepref09_Frontier_l5 : Nat → Int → L_api_Graph → (List Int) → Int → Option ((List Int) × L_api_Graph)
 | 0, _, _, _, _ => none
 | n + 1, t1, t2, t5, t6 =>
  if (decide (t6 < (t2.1.length : Int)) = true) then
   (lockstepref09_Frontier_l9 n t1 t2 t6 t5 false 0).bind fun r0 =>
    if (r0.2.1 = true) then
     if ((t6 == t1) = false) then
      (lockstepref07_Over n r0.2.2 0 t1 t6).bind fun r1 =>
       if ((!r1) = true) then
        if ((r0.1 ++ [t6]).length ≤ Ev.most) then
         (lockstepref09_Frontier_l5 n t1 r0.2.2 (r0.1 ++ [t6]) (IntKind.wrap .i64 (t6 + 1)))
        else none
       else (lockstepref09_Frontier_l5 n t1 r0.2.2 r0.1 (IntKind.wrap .i64 (t6 + 1)))
     else if ((r0.1 ++ [t6]).length ≤ Ev.most) then
      (lockstepref09_Frontier_l5 n t1 r0.2.2 (r0.1 ++ [t6]) (IntKind.wrap .i64 (t6 + 1)))
     else none
    else (lockstepref09_Frontier_l5 n t1 r0.2.2 r0.1 (IntKind.wrap .i64 (t6 + 1)))
  else some (t5, t2)
noncomputable def lockstepref09_Frontier (n : Nat) (t0 : L_api_Graph) (t1 : Int) : Option (List Int) :=
 (lockstepref06_May n t0).bind fun r0 =>
  if ((!r0) = false) then
   if (decide (t1 < 0) = false) then
    if (decide (t1 ≥ (t0.1.length : Int)) = false) then
     (lockstepref06_Reach n t0 0 (-1)).bind fun r1 =>
      if ((0 ≤ t1) ∧ (t1 < (r1.length : Int))) then
       if ((!(r1.getD t1.toNat false)) = true) then
        some []
       else (lockstepref09_Frontier_l5 n t1 t0 [] 0).bind fun r2 =>
        some r2.1
      else none
    else some []
   else some []
  else some []
noncomputable def lockstepref09_Frontier_l9_h : Sh := ⟨[(1, (.val (.int .i64))), (2, (.box (.val Y_api_Graph))), (6, (.val (.int .i64)))], [(5, (.own (.int .i64))), (7, (.val .bool)), (8, (.val (.int .i64)))], [5, 7, 8, 38, 39, 40, 41, 42, 43, 44, 45, 46, 47, 48, 49, 50, 51, 52, 53, 54, 55, 56, 57, 58, 59, 60], [⟨.exit 2, [(5, (.own (.int .i64))), (7, (.val .bool))]⟩]⟩
noncomputable def lockstepref09_Frontier_l9_F (n : Nat) : lockstepref09_Frontier_l9_h.Fn := fun x y => lockstepref09_Frontier_l9 n x.1 x.2.1 x.2.2.1 y.1 y.2.1 y.2.2.1
noncomputable def lockstepref09_Frontier_l9_k (n : Nat) : Cut := lockstepref09_Frontier_l9_h.cut (lockstepref09_Frontier_l9_F n)
noncomputable def lockstepref09_Frontier_l5_h : Sh := ⟨[(1, (.val (.int .i64))), (2, (.box (.val Y_api_Graph)))], [(5, (.own (.int .i64))), (6, (.val (.int .i64)))], [5, 6, 7, 8, 31, 32, 33, 34, 35, 36, 37, 38, 39, 40, 41, 42, 43, 44, 45, 46, 47, 48, 49, 50, 51, 52, 53, 54, 55, 56, 57, 58, 59, 60, 61, 62, 63, 64, 65, 66, 67, 68, 69, 70, 71, 72, 73, 74, 75, 76, 77], [⟨.exit 0, [(5, (.own (.int .i64)))]⟩]⟩
noncomputable def lockstepref09_Frontier_l5_F (n : Nat) : lockstepref09_Frontier_l5_h.Fn := fun x y => lockstepref09_Frontier_l5 n x.1 x.2.1 y.1 y.2.1
noncomputable def lockstepref09_Frontier_l5_k (n : Nat) : Cut := lockstepref09_Frontier_l5_h.cut (lockstepref09_Frontier_l5_F n)
noncomputable def lockstepref09_Frontier_e (n : Nat) : Env := mkEnv T_ A_ N_ [(21, lockstepref06_Has_c n), (26, lockstepref06_May_c n), (20, lockstepref06_Reach_c n), (27, lockstepref07_Over_c n)] [((0, 9, 10), lockstepref09_Frontier_l9_k n), ((0, 5, 6), lockstepref09_Frontier_l5_k n)] 79
noncomputable def lockstepref09_Frontier_c (n : Nat) : Con := mkCon [(.val Y_api_Graph), (.val (.int .i64))] [(.val (.list (.int .i64)))] (fun x => lockstepref09_Frontier n x.1 x.2.1)
theorem lockstepref09_Frontier_ok (n : Nat) : EnvOK Try.prog (lockstepref09_Frontier_e n) := mkEnv_ok tabs ⟨⟨lockstepref06_Has_m n, fok21⟩, ⟨lockstepref06_May_m n, fok26⟩, ⟨lockstepref06_Reach_m n, fok20⟩, ⟨lockstepref07_Over_m n, fok27⟩, trivial⟩
theorem lockstepref09_Frontier_l9_m (n : Nat) : CutMeets Try.prog (.loop (codeAt [1, 1, 1, 0, 1, 0, 0, 1, 0, 0, 1, 0, 1, 0, 0] (bodyOf Try.f11))) 79 (lockstepref09_Frontier_l9_k n) :=
 loop_ok lockstepref09_Frontier_l9_h lockstepref09_Frontier_l9_F (E := lockstepref09_Frontier_e) (l := fun n => []) mixed (fun _ => rfl) lockstepref09_Frontier_ok (by kernel_rfl) (fun _ => by kernel_rfl) (fun n => trivial) (fun _ _ => rfl) (fun n x y => by kernel_rfl) n
theorem lockstepref09_Frontier_l5_m (n : Nat) : CutMeets Try.prog (.loop (codeAt [1, 1, 1, 0, 1, 0, 0] (bodyOf Try.f11))) 79 (lockstepref09_Frontier_l5_k n) :=
 loop_ok lockstepref09_Frontier_l5_h lockstepref09_Frontier_l5_F (E := lockstepref09_Frontier_e) (l := fun n => [(Code.loop (codeAt [1, 1, 1, 0, 1, 0, 0, 1, 0, 0, 1, 0, 1, 0, 0] (bodyOf Try.f11)), lockstepref09_Frontier_l9_k n)]) mixed (fun _ => rfl) lockstepref09_Frontier_ok (by kernel_rfl) (fun _ => by kernel_rfl) (fun n => ⟨lockstepref09_Frontier_l9_m n, trivial⟩) (fun _ _ => rfl) (fun n x y => by kernel_rfl) n
theorem lockstepref09_Frontier_m (n : Nat) : Meets Try.prog 11 (lockstepref09_Frontier_c n) :=
 con_meets (l := [(Code.loop (codeAt [1, 1, 1, 0, 1, 0, 0] (bodyOf Try.f11)), lockstepref09_Frontier_l5_k n)]) mixed Try.func11 (by kernel_rfl) (lockstepref09_Frontier_ok n) (by kernel_rfl) (by kernel_rfl) (by kernel_rfl) ⟨lockstepref09_Frontier_l5_m n, trivial⟩ (fun x => by kernel_rfl)
/-! 3 lockstep/locksteplaw09.DepAll -/
noncomputable def locksteplaw09_DepAll_l14 : Nat → Int → L_api_Graph → (List L_api_Dep) → (List L_api_Dep) → Int → Option ((List L_api_Dep) × L_api_Graph)
 | 0, _, _, _, _, _ => none
 | n + 1, t2, t8, t11, t10, t12 =>
  if (decide (t12 < (t11.length : Int)) = true) then
   if ((0 ≤ t12) ∧ (t12 < (t11.length : Int))) then
    if (((t11.getD t12.toNat (0, 0, 0, ())).1 == t2) = true) then
     if ((0 ≤ t12) ∧ (t12 < (t11.length : Int))) then
      if ((t10 ++ [(t11.getD t12.toNat (0, 0, 0, ()))]).length ≤ Ev.most) then
       (locksteplaw09_DepAll_l14 n t2 t8 t11 (t10 ++ [(t11.getD t12.toNat (0, 0, 0, ()))]) (IntKind.wrap .i64 (t12 + 1)))
      else none
     else none
    else (locksteplaw09_DepAll_l14 n t2 t8 t11 t10 (IntKind.wrap .i64 (t12 + 1)))
   else none
  else some (t10, t8)
noncomputable def locksteplaw09_DepAll (n : Nat) (t0 : (List (List Int))) (t1 : (List (List Int))) (t2 : Int) : Option Bool :=
 (locksteplaw09_awake n).bind fun r0 =>
  if ((!r0) = true) then
   some false
  else if (decide ((t0.length : Int) > 16) = false) then
   (lockstepref06_Small n t0).bind fun r1 =>
    if ((!r1) = false) then
     (lockstepref06_Small n t1).bind fun r2 =>
      if ((!r2) = true) then
       some true
      else (dep_All n (t0, t1, ())).bind fun r3 =>
       (lockstepref09_All n (t0, t1, ())).bind fun r4 =>
        (lockstepref09_Same n r3 r4).bind fun r5 =>
         if ((!r5) = false) then
          (dep_Frontier n (t0, t1, ()) t2).bind fun r6 =>
           (lockstepref09_Frontier n (t0, t1, ()) t2).bind fun r7 =>
            (lockstepref02_Ints n r6 r7).bind fun r8 =>
             if ((!r8) = true) then
              some false
             else (graph_Make n t0).bind fun r9 =>
              if ((r9.2 != 0) = true) then
               some true
              else (lockstepref09_All n r9.1).bind fun r10 =>
               (locksteplaw09_DepAll_l14 n t2 r9.1 r10 [] 0).bind fun r11 =>
                (dep_All n r11.2).bind fun r12 =>
                 (lockstepref09_Same n r12 r10).bind fun r13 =>
                  if (r13 = true) then
                   (dep_Of n r11.2 t2).bind fun r14 =>
                    (lockstepref09_Same n r14 r11.1).bind fun r15 =>
                     if (r15 = true) then
                      (dep_Frontier n r11.2 t2).bind fun r16 =>
                       (lockstepref09_Frontier n r11.2 t2).bind fun r17 =>
                        (lockstepref02_Ints n r16 r17).bind fun r18 =>
                         some r18
                     else some false
                  else some false
         else some false
    else some true
  else some true
noncomputable def locksteplaw09_DepAll_l14_h : Sh := ⟨[(2, (.val (.int .i64))), (8, (.box (.val Y_api_Graph))), (11, (.val (.list Y_api_Dep)))], [(10, (.own Y_api_Dep)), (12, (.val (.int .i64)))], [10, 12, 56, 57, 58, 59, 60, 61, 62, 63, 64, 65, 66, 67, 68, 69, 70, 71, 72, 73, 74, 75], [⟨.exit 0, [(10, (.own Y_api_Dep))]⟩]⟩
noncomputable def locksteplaw09_DepAll_l14_F (n : Nat) : locksteplaw09_DepAll_l14_h.Fn := fun x y => locksteplaw09_DepAll_l14 n x.1 x.2.1 x.2.2.1 y.1 y.2.1
noncomputable def locksteplaw09_DepAll_l14_k (n : Nat) : Cut := locksteplaw09_DepAll_l14_h.cut (locksteplaw09_DepAll_l14_F n)
noncomputable def locksteplaw09_DepAll_e (n : Nat) : Env := mkEnv T_ A_ N_ [(12, graph_Make_c n), (7, dep_All_c n), (10, dep_Frontier_c n), (9, lockstepref02_Ints_c n), (13, dep_Of_c n), (4, locksteplaw09_awake_c n), (5, lockstepref06_Small_c n), (8, lockstepref09_All_c n), (6, lockstepref09_Same_c n), (11, lockstepref09_Frontier_c n)] [((0, 14, 15), locksteplaw09_DepAll_l14_k n)] 96
noncomputable def locksteplaw09_DepAll_c (n : Nat) : Con := mkCon [(.val (.list (.list (.int .i64)))), (.val (.list (.list (.int .i64)))), (.val (.int .i64))] [(.val .bool)] (fun x => locksteplaw09_DepAll n x.1 x.2.1 x.2.2.1)
theorem locksteplaw09_DepAll_ok (n : Nat) : EnvOK Try.prog (locksteplaw09_DepAll_e n) := mkEnv_ok tabs ⟨⟨graph_Make_m n, fok12⟩, ⟨dep_All_m n, fok7⟩, ⟨dep_Frontier_m n, fok10⟩, ⟨lockstepref02_Ints_m n, fok9⟩, ⟨dep_Of_m n, fok13⟩, ⟨locksteplaw09_awake_m n, fok4⟩, ⟨lockstepref06_Small_m n, fok5⟩, ⟨lockstepref09_All_m n, fok8⟩, ⟨lockstepref09_Same_m n, fok6⟩, ⟨lockstepref09_Frontier_m n, fok11⟩, trivial⟩
theorem locksteplaw09_DepAll_l14_m (n : Nat) : CutMeets Try.prog (.loop (codeAt [1, 1, 1, 1, 1, 1, 1, 1, 1, 0, 1, 0, 0] (bodyOf Try.f3))) 96 (locksteplaw09_DepAll_l14_k n) :=
 loop_ok locksteplaw09_DepAll_l14_h locksteplaw09_DepAll_l14_F (E := locksteplaw09_DepAll_e) (l := fun n => []) mixed (fun _ => rfl) locksteplaw09_DepAll_ok (by kernel_rfl) (fun _ => by kernel_rfl) (fun n => trivial) (fun _ _ => rfl) (fun n x y => by kernel_rfl) n
theorem locksteplaw09_DepAll_m (n : Nat) : Meets Try.prog 3 (locksteplaw09_DepAll_c n) :=
 con_meets (l := [(Code.loop (codeAt [1, 1, 1, 1, 1, 1, 1, 1, 1, 0, 1, 0, 0] (bodyOf Try.f3)), locksteplaw09_DepAll_l14_k n)]) mixed Try.func3 (by kernel_rfl) (locksteplaw09_DepAll_ok n) (by kernel_rfl) (by kernel_rfl) (by kernel_rfl) ⟨locksteplaw09_DepAll_l14_m n, trivial⟩ (fun x => by kernel_rfl)
end Go.PrS
