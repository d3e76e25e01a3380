/- What functions of the program come to, as plain functions, and that they keep these contracts. No conditions beyond each theorem's own. -/
import Derived.Test.YthbmdmphkeclmaaE3
import Derived.Test.YthbmdmphkeclmaaProg
import Derived.KernelRfl
set_option linter.unusedVariables false
set_option linter.unusedSimpArgs false
noncomputable section
namespace Go.PrS
open Go Go.Ev Go.Proofs
noncomputable abbrev Y_code_reader : Ty := (.pair (.list (.int .u8)) (.pair (.int .i64) .unit))
abbrev L_code_reader : Type := ((List Int) × (Int × Unit))
noncomputable abbrev Y_api_End : Ty := (.pair (.int .i64) (.pair (.int .i64) (.pair (.list (.int .i64)) .unit)))
abbrev L_api_End : Type := (Int × (Int × ((List Int) × Unit)))
noncomputable abbrev Y_api_Phi : Ty := (.pair (.int .i64) (.pair (.int .i64) (.pair (.list (.int .i64)) (.pair (.list (.int .i64)) .unit))))
abbrev L_api_Phi : Type := (Int × (Int × ((List Int) × ((List Int) × Unit))))
noncomputable abbrev Y_api_Op : Ty := (.pair (.int .i64) (.pair (.int .i64) (.pair (.int .i64) (.pair (.int .i64) (.pair (.list (.int .i64)) (.pair (.int .u64) .unit))))))
abbrev L_api_Op : Type := (Int × (Int × (Int × (Int × L_code_reader))))
noncomputable abbrev Y_api_Block : Ty := (.pair (.list Y_api_Phi) (.pair (.list Y_api_Op) (.pair Y_api_End .unit)))
abbrev L_api_Block : Type := ((List L_api_Phi) × ((List L_api_Op) × (L_api_End × Unit)))
noncomputable abbrev Y_api_Func : Ty := (.pair (.list (.int .i64)) (.pair (.int .i64) (.pair (.list Y_api_Block) .unit)))
abbrev L_api_Func : Type := ((List Int) × (Int × ((List L_api_Block) × Unit)))
noncomputable def T_ : List (Nat × Ty) := [(29, (.list (.int .u8))), (3, (.int .i64)), (5, (.int .u8)), (42, (.int .u64)), (31, (.int .i64)), (22, (.list (.int .i64))), (59, Y_code_reader), (49, Y_api_Phi), (36, (.list Y_api_Phi)), (44, Y_api_Op), (37, (.list Y_api_Op)), (41, Y_api_Block), (39, Y_api_End), (25, Y_api_Func), (23, (.list Y_api_Block)), (87, (.list (.list (.int .i64)))), (74, (.list (.list (.int .u8)))), (26, (.int .u16)), (4, .bool)]
noncomputable def A_ : List Nat := []
noncomputable def N_ : List Nat := [83, 85, 65, 56, 69, 68, 72]
theorem tabs : (∀ t ty, lookT T_ t = some ty → TyOK Try.prog (memN t A_) t ty) ∧ ∀ t, memN t N_ = true → FnTyOK Try.prog t := tab_ok (by kernel_rfl) (by kernel_rfl)
theorem mixed : Try.prog.follows .mixedOrders = true := by kernel_rfl
theorem fok58 : FnOK Try.prog 58 := ⟨Try.f58, Try.func58, by kernel_rfl, by kernel_rfl⟩
theorem fok51 : FnOK Try.prog 51 := ⟨Try.f51, Try.func51, by kernel_rfl, by kernel_rfl⟩
theorem fok28 : FnOK Try.prog 28 := ⟨Try.f28, Try.func28, by kernel_rfl, by kernel_rfl⟩
theorem fok52 : FnOK Try.prog 52 := ⟨Try.f52, Try.func52, by kernel_rfl, by kernel_rfl⟩
theorem fok29 : FnOK Try.prog 29 := ⟨Try.f29, Try.func29, by kernel_rfl, by kernel_rfl⟩
theorem fok30 : FnOK Try.prog 30 := ⟨Try.f30, Try.func30, by kernel_rfl, by kernel_rfl⟩
theorem fok54 : FnOK Try.prog 54 := ⟨Try.f54, Try.func54, by kernel_rfl, by kernel_rfl⟩
theorem fok53 : FnOK Try.prog 53 := ⟨Try.f53, Try.func53, by kernel_rfl, by kernel_rfl⟩
theorem fok56 : FnOK Try.prog 56 := ⟨Try.f56, Try.func56, by kernel_rfl, by kernel_rfl⟩
theorem fok55 : FnOK Try.prog 55 := ⟨Try.f55, Try.func55, by kernel_rfl, by kernel_rfl⟩
theorem fok31 : FnOK Try.prog 31 := ⟨Try.f31, Try.func31, by kernel_rfl, by kernel_rfl⟩
theorem fok14 : FnOK Try.prog 14 := ⟨Try.f14, Try.func14, by kernel_rfl, by kernel_rfl⟩
theorem fok12 : FnOK Try.prog 12 := ⟨Try.f12, Try.func12, by kernel_rfl, by kernel_rfl⟩
theorem fok48 : FnOK Try.prog 48 := ⟨Try.f48, Try.func48, by kernel_rfl, by kernel_rfl⟩
theorem fok57 : FnOK Try.prog 57 := ⟨Try.f57, Try.func57, by kernel_rfl, by kernel_rfl⟩
theorem fok47 : FnOK Try.prog 47 := ⟨Try.f47, Try.func47, by kernel_rfl, by kernel_rfl⟩
theorem fok24 : FnOK Try.prog 24 := ⟨Try.f24, Try.func24, by kernel_rfl, by kernel_rfl⟩
theorem fok50 : FnOK Try.prog 50 := ⟨Try.f50, Try.func50, by kernel_rfl, by kernel_rfl⟩
theorem fok27 : FnOK Try.prog 27 := ⟨Try.f27, Try.func27, by kernel_rfl, by kernel_rfl⟩
theorem fok26 : FnOK Try.prog 26 := ⟨Try.f26, Try.func26, by kernel_rfl, by kernel_rfl⟩
theorem fok49 : FnOK Try.prog 49 := ⟨Try.f49, Try.func49, by kernel_rfl, by kernel_rfl⟩
theorem fok25 : FnOK Try.prog 25 := ⟨Try.f25, Try.func25, by kernel_rfl, by kernel_rfl⟩
theorem fok11 : FnOK Try.prog 11 := ⟨Try.f11, Try.func11, by kernel_rfl, by kernel_rfl⟩
theorem fok23 : FnOK Try.prog 23 := ⟨Try.f23, Try.func23, by kernel_rfl, by kernel_rfl⟩
theorem fok20 : FnOK Try.prog 20 := ⟨Try.f20, Try.func20, by kernel_rfl, by kernel_rfl⟩
theorem fok21 : FnOK Try.prog 21 := ⟨Try.f21, Try.func21, by kernel_rfl, by kernel_rfl⟩
theorem fok46 : FnOK Try.prog 46 := ⟨Try.f46, Try.func46, by kernel_rfl, by kernel_rfl⟩
theorem fok22 : FnOK Try.prog 22 := ⟨Try.f22, Try.func22, by kernel_rfl, by kernel_rfl⟩
theorem fok10 : FnOK Try.prog 10 := ⟨Try.f10, Try.func10, by kernel_rfl, by kernel_rfl⟩
theorem fok13 : FnOK Try.prog 13 := ⟨Try.f13, Try.func13, by kernel_rfl, by kernel_rfl⟩
theorem fok8 : FnOK Try.prog 8 := ⟨Try.f8, Try.func8, by kernel_rfl, by kernel_rfl⟩
theorem fok9 : FnOK Try.prog 9 := ⟨Try.f9, Try.func9, by kernel_rfl, by kernel_rfl⟩
theorem fok3 : FnOK Try.prog 3 := ⟨Try.f3, Try.func3, by kernel_rfl, by kernel_rfl⟩
theorem fok4 : FnOK Try.prog 4 := ⟨Try.f4, Try.func4, by kernel_rfl, by kernel_rfl⟩
theorem fok33 : FnOK Try.prog 33 := ⟨Try.f33, Try.func33, by kernel_rfl, by kernel_rfl⟩
theorem fok32 : FnOK Try.prog 32 := ⟨Try.f32, Try.func32, by kernel_rfl, by kernel_rfl⟩
theorem fok16 : FnOK Try.prog 16 := ⟨Try.f16, Try.func16, by kernel_rfl, by kernel_rfl⟩
theorem fok15 : FnOK Try.prog 15 := ⟨Try.f15, Try.func15, by kernel_rfl, by kernel_rfl⟩
theorem fok36 : FnOK Try.prog 36 := ⟨Try.f36, Try.func36, by kernel_rfl, by kernel_rfl⟩
theorem fok34 : FnOK Try.prog 34 := ⟨Try.f34, Try.func34, by kernel_rfl, by kernel_rfl⟩
theorem fok35 : FnOK Try.prog 35 := ⟨Try.f35, Try.func35, by kernel_rfl, by kernel_rfl⟩
theorem fok17 : FnOK Try.prog 17 := ⟨Try.f17, Try.func17, by kernel_rfl, by kernel_rfl⟩
theorem fok37 : FnOK Try.prog 37 := ⟨Try.f37, Try.func37, by kernel_rfl, by kernel_rfl⟩
theorem fok38 : FnOK Try.prog 38 := ⟨Try.f38, Try.func38, by kernel_rfl, by kernel_rfl⟩
theorem fok18 : FnOK Try.prog 18 := ⟨Try.f18, Try.func18, by kernel_rfl, by kernel_rfl⟩
theorem fok40 : FnOK Try.prog 40 := ⟨Try.f40, Try.func40, by kernel_rfl, by kernel_rfl⟩
theorem fok39 : FnOK Try.prog 39 := ⟨Try.f39, Try.func39, by kernel_rfl, by kernel_rfl⟩
theorem fok42 : FnOK Try.prog 42 := ⟨Try.f42, Try.func42, by kernel_rfl, by kernel_rfl⟩
theorem fok44 : FnOK Try.prog 44 := ⟨Try.f44, Try.func44, by kernel_rfl, by kernel_rfl⟩
theorem fok43 : FnOK Try.prog 43 := ⟨Try.f43, Try.func43, by kernel_rfl, by kernel_rfl⟩
theorem fok41 : FnOK Try.prog 41 := ⟨Try.f41, Try.func41, by kernel_rfl, by kernel_rfl⟩
theorem fok45 : FnOK Try.prog 45 := ⟨Try.f45, Try.func45, by kernel_rfl, by kernel_rfl⟩
theorem fok19 : FnOK Try.prog 19 := ⟨Try.f19, Try.func19, by kernel_rfl, by kernel_rfl⟩
theorem fok5 : FnOK Try.prog 5 := ⟨Try.f5, Try.func5, by kernel_rfl, by kernel_rfl⟩
theorem fok6 : FnOK Try.prog 6 := ⟨Try.f6, Try.func6, by kernel_rfl, by kernel_rfl⟩
theorem fok7 : FnOK Try.prog 7 := ⟨Try.f7, Try.func7, by kernel_rfl, by kernel_rfl⟩
/-! 58 lockstep/num.Get -/
noncomputable def num_Get_s1_j0 : Nat → (List Int) → Int → Int → Option (Sum (Int × (Int × Int)) (Int × (Int × Int)))
 | 0, _, _, _ => none
 | n + 1, t0, t5, t6 =>
  if ((t6 == (t0.length : Int)) = true) then
   some (.inl (0, 0, 2))
  else if ((0 ≤ t6) ∧ (t6 < (t0.length : Int))) then
   if ((t6 == 9) = true) then
    if (decide ((t0.getD t6.toNat 0) > 1) = true) then
     some (.inl (0, 0, 3))
    else if (0 ≤ (IntKind.wrap .i64 (7 * t6))) then
     if (decide ((t0.getD t6.toNat 0) ≥ 128) = true) then
      (num_Get_s1_j0 n t0 (IntKind.wrap .u64 ((BitVec.toNat ((BitVec.ofInt 64 t5) ||| (BitVec.ofInt 64 (IntKind.wrap .u64 ((IntKind.wrap .u64 (IntKind.wrap .u8 ((BitVec.toNat ((BitVec.ofInt 8 (t0.getD t6.toNat 0)) &&& (BitVec.ofInt 8 127))) : Int))) * (2 ^ (min ((IntKind.wrap .i64 (7 * t6)).toNat) 64))))))) : Int)) (IntKind.wrap .i64 (t6 + 1)))
     else if (((t0.getD t6.toNat 0) == 0) = true) then
      if (decide ((IntKind.wrap .i64 (t6 + 1)) > 1) = true) then
       some (.inl (0, 0, 3))
      else some (.inl ((IntKind.wrap .u64 ((BitVec.toNat ((BitVec.ofInt 64 t5) ||| (BitVec.ofInt 64 (IntKind.wrap .u64 ((IntKind.wrap .u64 (IntKind.wrap .u8 ((BitVec.toNat ((BitVec.ofInt 8 (t0.getD t6.toNat 0)) &&& (BitVec.ofInt 8 127))) : Int))) * (2 ^ (min ((IntKind.wrap .i64 (7 * t6)).toNat) 64))))))) : Int)), (IntKind.wrap .i64 (t6 + 1)), 0))
     else some (.inl ((IntKind.wrap .u64 ((BitVec.toNat ((BitVec.ofInt 64 t5) ||| (BitVec.ofInt 64 (IntKind.wrap .u64 ((IntKind.wrap .u64 (IntKind.wrap .u8 ((BitVec.toNat ((BitVec.ofInt 8 (t0.getD t6.toNat 0)) &&& (BitVec.ofInt 8 127))) : Int))) * (2 ^ (min ((IntKind.wrap .i64 (7 * t6)).toNat) 64))))))) : Int)), (IntKind.wrap .i64 (t6 + 1)), 0))
    else none
   else if (0 ≤ (IntKind.wrap .i64 (7 * t6))) then
    if (decide ((t0.getD t6.toNat 0) ≥ 128) = true) then
     (num_Get_s1_j0 n t0 (IntKind.wrap .u64 ((BitVec.toNat ((BitVec.ofInt 64 t5) ||| (BitVec.ofInt 64 (IntKind.wrap .u64 ((IntKind.wrap .u64 (IntKind.wrap .u8 ((BitVec.toNat ((BitVec.ofInt 8 (t0.getD t6.toNat 0)) &&& (BitVec.ofInt 8 127))) : Int))) * (2 ^ (min ((IntKind.wrap .i64 (7 * t6)).toNat) 64))))))) : Int)) (IntKind.wrap .i64 (t6 + 1)))
    else if (((t0.getD t6.toNat 0) == 0) = true) then
     if (decide ((IntKind.wrap .i64 (t6 + 1)) > 1) = true) then
      some (.inl (0, 0, 3))
     else some (.inl ((IntKind.wrap .u64 ((BitVec.toNat ((BitVec.ofInt 64 t5) ||| (BitVec.ofInt 64 (IntKind.wrap .u64 ((IntKind.wrap .u64 (IntKind.wrap .u8 ((BitVec.toNat ((BitVec.ofInt 8 (t0.getD t6.toNat 0)) &&& (BitVec.ofInt 8 127))) : Int))) * (2 ^ (min ((IntKind.wrap .i64 (7 * t6)).toNat) 64))))))) : Int)), (IntKind.wrap .i64 (t6 + 1)), 0))
    else some (.inl ((IntKind.wrap .u64 ((BitVec.toNat ((BitVec.ofInt 64 t5) ||| (BitVec.ofInt 64 (IntKind.wrap .u64 ((IntKind.wrap .u64 (IntKind.wrap .u8 ((BitVec.toNat ((BitVec.ofInt 8 (t0.getD t6.toNat 0)) &&& (BitVec.ofInt 8 127))) : Int))) * (2 ^ (min ((IntKind.wrap .i64 (7 * t6)).toNat) 64))))))) : Int)), (IntKind.wrap .i64 (t6 + 1)), 0))
   else none
  else none
noncomputable def num_Get_s1 (n : Nat) (t0 : (List Int)) : Option (Sum (Int × (Int × Int)) (Int × (Int × Int))) :=
  if ((0 == (t0.length : Int)) = true) then
   some (.inl (0, 0, 2))
  else if (((0 : Int) ≤ 0) ∧ (0 < (t0.length : Int))) then
   if (decide ((t0.getD 0 0) ≥ 128) = true) then
    (num_Get_s1_j0 n t0 (IntKind.wrap .u64 ((BitVec.toNat ((BitVec.ofInt 64 0) ||| (BitVec.ofInt 64 (IntKind.wrap .u64 ((IntKind.wrap .u64 (IntKind.wrap .u8 ((BitVec.toNat ((BitVec.ofInt 8 (t0.getD 0 0)) &&& (BitVec.ofInt 8 127))) : Int))) * 1))))) : Int)) 1)
   else if (((t0.getD 0 0) == 0) = true) then
    some (.inl ((IntKind.wrap .u64 ((BitVec.toNat ((BitVec.ofInt 64 0) ||| (BitVec.ofInt 64 (IntKind.wrap .u64 ((IntKind.wrap .u64 (IntKind.wrap .u8 ((BitVec.toNat ((BitVec.ofInt 8 (t0.getD 0 0)) &&& (BitVec.ofInt 8 127))) : Int))) * 1))))) : Int)), 1, 0))
   else some (.inl ((IntKind.wrap .u64 ((BitVec.toNat ((BitVec.ofInt 64 0) ||| (BitVec.ofInt 64 (IntKind.wrap .u64 ((IntKind.wrap .u64 (IntKind.wrap .u8 ((BitVec.toNat ((BitVec.ofInt 8 (t0.getD 0 0)) &&& (BitVec.ofInt 8 127))) : Int))) * 1))))) : Int)), 1, 0))
  else none
noncomputable def num_Get (n : Nat) (t0 : (List Int)) : Option (Int × (Int × Int)) :=
 (num_Get_s1 n t0).bind fun r0 =>
  match r0 with
   | .inl r1 =>
    some r1
   | .inr r1 =>
    some r1
noncomputable def num_Get_s1_h : Sh := ⟨[(0, (.val (.list (.int .u8))))], [], [2, 3, 4, 5, 6, 7, 8, 9, 10, 11, 12, 13, 14, 15, 16, 17, 18, 19, 20, 21, 22, 23, 24, 25, 26, 27, 28, 29, 30, 31, 32, 33, 34, 35, 36, 37, 38, 39, 40, 41], [⟨.ret, [(2, (.val (.int .u64))), (3, (.val (.int .i64))), (4, (.val (.int .i64)))]⟩, ⟨.normal, [(2, (.val (.int .u64))), (3, (.val (.int .i64))), (4, (.val (.int .i64)))]⟩]⟩
noncomputable def num_Get_s1_F (n : Nat) : num_Get_s1_h.Fn := fun x y => num_Get_s1 n x.1
noncomputable def num_Get_s1_k (n : Nat) : Cut := num_Get_s1_h.cut (num_Get_s1_F n)
noncomputable def num_Get_s1_L : List (Lab num_Get_s1_h) := [⟨0, [(5, (.val (.int .u64))), (6, (.val (.int .i64)))], fun n x y => num_Get_s1_j0 n x.1 y.1 y.2.1⟩]
noncomputable def num_Get_e (n : Nat) : Env := mkEnv T_ A_ N_ [] [((1, 1, 0), num_Get_s1_k n)] 42
noncomputable def num_Get_c (n : Nat) : Con := mkCon [(.val (.list (.int .u8)))] [(.val (.int .u64)), (.val (.int .i64)), (.val (.int .i64))] (fun x => num_Get n x.1)
theorem num_Get_ok (n : Nat) : EnvOK Try.prog (num_Get_e n) := mkEnv_ok tabs trivial
theorem num_Get_s1_m (n : Nat) : CutMeets Try.prog (.scope (codeAt [1, 0] (bodyOf Try.f58))) 42 (num_Get_s1_k n) :=
 scope_ok num_Get_s1_h (num_Get_s1_F n) num_Get_s1_L (E := num_Get_e) (l := fun n => []) mixed (fun _ => rfl) num_Get_ok (by kernel_rfl) (fun _ => by kernel_rfl) (fun n => trivial) ⟨⟨fun _ _ => rfl, by kernel_rfl, fun n => [], fun _ => by kernel_rfl, fun n => trivial, fun n x y => by kernel_rfl⟩, trivial⟩ n (fun x y => by kernel_rfl)
theorem num_Get_m (n : Nat) : Meets Try.prog 58 (num_Get_c n) :=
 con_meets (l := [(Code.scope (codeAt [1, 0] (bodyOf Try.f58)), num_Get_s1_k n)]) mixed Try.func58 (by kernel_rfl) (num_Get_ok n) (by kernel_rfl) (by kernel_rfl) (by kernel_rfl) ⟨num_Get_s1_m n, trivial⟩ (fun x => by kernel_rfl)
/-! 51 lockstep/num.List -/
noncomputable def num_List_l8 : Nat → (List Int) → Int → Int → (List Int) → Int → Option (Sum (Int × (List Int)) ((List Int) × (Int × Int)))
 | 0, _, _, _, _, _ => none
 | n + 1, t0, t33, t8, t10, t34 =>
  if (decide (t34 < t33) = true) then
   if ((0 ≤ t8) ∧ (t8 ≤ (t0.length : Int))) then
    (num_Get n (t0.drop t8.toNat)).bind fun r0 =>
     if ((r0.2.2 != 0) = true) then
      some (.inr ([], 0, r0.2.2))
     else if (decide (r0.1 > 2147483647) = true) then
      some (.inr ([], 0, 4))
     else if ((t10 ++ [(IntKind.wrap .i64 r0.1)]).length ≤ Ev.most) then
      (num_List_l8 n t0 t33 (IntKind.wrap .i64 (t8 + r0.2.1)) (t10 ++ [(IntKind.wrap .i64 r0.1)]) (IntKind.wrap .u64 (t34 + 1)))
     else none
   else none
  else some (.inl (t8, t10))
noncomputable def num_List (n : Nat) (t0 : (List Int)) (t1 : Int) : Option ((List Int) × (Int × Int)) :=
 (num_Get n t0).bind fun r0 =>
  if ((r0.2.2 != 0) = true) then
   some ([], 0, r0.2.2)
  else if (decide (t1 < 0) = false) then
   if (decide (r0.1 > (IntKind.wrap .u64 t1)) = true) then
    some ([], 0, 4)
   else (num_List_l8 n t0 r0.1 r0.2.1 [] 0).bind fun r1 =>
    match r1 with
     | .inl r2 =>
      some (r2.2, r2.1, 0)
     | .inr r2 =>
      some r2
  else some ([], 0, 4)
noncomputable def num_List_l8_h : Sh := ⟨[(0, (.val (.list (.int .u8)))), (33, (.val (.int .u64)))], [(8, (.val (.int .i64))), (10, (.own (.int .i64))), (34, (.val (.int .u64)))], [4, 5, 6, 8, 10, 11, 12, 13, 34, 35, 36, 37, 38, 39, 40, 41, 42, 43, 44, 45, 46, 47, 48, 49, 50, 51, 52, 53, 54, 55, 56, 57], [⟨.exit 1, [(8, (.val (.int .i64))), (10, (.own (.int .i64)))]⟩, ⟨.ret, [(4, (.own (.int .i64))), (5, (.val (.int .i64))), (6, (.val (.int .i64)))]⟩]⟩
noncomputable def num_List_l8_F (n : Nat) : num_List_l8_h.Fn := fun x y => num_List_l8 n x.1 x.2.1 y.1 y.2.1 y.2.2.1
noncomputable def num_List_l8_k (n : Nat) : Cut := num_List_l8_h.cut (num_List_l8_F n)
noncomputable def num_List_e (n : Nat) : Env := mkEnv T_ A_ N_ [(58, num_Get_c n)] [((0, 8, 16), num_List_l8_k n)] 60
noncomputable def num_List_c (n : Nat) : Con := mkCon [(.val (.list (.int .u8))), (.val (.int .i64))] [(.val (.list (.int .i64))), (.val (.int .i64)), (.val (.int .i64))] (fun x => num_List n x.1 x.2.1)
theorem num_List_ok (n : Nat) : EnvOK Try.prog (num_List_e n) := mkEnv_ok tabs ⟨⟨num_Get_m n, fok58⟩, trivial⟩
theorem num_List_l8_m (n : Nat) : CutMeets Try.prog (.loop (codeAt [1, 1, 1, 1, 0, 1, 0, 0] (bodyOf Try.f51))) 60 (num_List_l8_k n) :=
 loop_ok num_List_l8_h num_List_l8_F (E := num_List_e) (l := fun n => []) mixed (fun _ => rfl) num_List_ok (by kernel_rfl) (fun _ => by kernel_rfl) (fun n => trivial) (fun _ _ => rfl) (fun n x y => by kernel_rfl) n
theorem num_List_m (n : Nat) : Meets Try.prog 51 (num_List_c n) :=
 con_meets (l := [(Code.loop (codeAt [1, 1, 1, 1, 0, 1, 0, 0] (bodyOf Try.f51)), num_List_l8_k n)]) mixed Try.func51 (by kernel_rfl) (num_List_ok n) (by kernel_rfl) (by kernel_rfl) (by kernel_rfl) ⟨num_List_l8_m n, trivial⟩ (fun x => by kernel_rfl)
/-! 28 (*lockstep/code.reader).list -/
noncomputable def code_reader_list (n : Nat) (t0 : L_code_reader) (t1 : Int) : Option ((List Int) × L_code_reader) :=
 if ((t0.2.1 != 0) = true) then
  some ([], t0)
 else (num_List n t0.1 t1).bind fun r0 =>
  if ((0 ≤ r0.2.1) ∧ (r0.2.1 ≤ (t0.1.length : Int))) then
   some (r0.1, (t0.1.drop r0.2.1.toNat), r0.2.2, ())
  else none
noncomputable def code_reader_list_e (n : Nat) : Env := mkEnv T_ A_ N_ [(51, num_List_c n)] [] 37
noncomputable def code_reader_list_c (n : Nat) : Con := mkCon [(.box (.val Y_code_reader)), (.val (.int .i64))] [(.val (.list (.int .i64)))] (fun x => code_reader_list n x.1 x.2.1)
theorem code_reader_list_ok (n : Nat) : EnvOK Try.prog (code_reader_list_e n) := mkEnv_ok tabs ⟨⟨num_List_m n, fok51⟩, trivial⟩
theorem code_reader_list_m (n : Nat) : Meets Try.prog 28 (code_reader_list_c n) :=
 con_meets (l := []) mixed Try.func28 (by kernel_rfl) (code_reader_list_ok n) (by kernel_rfl) (by kernel_rfl) (by kernel_rfl) trivial (fun x => by kernel_rfl)
/-! 52 (*lockstep/code.reader).wide -/
noncomputable def code_reader_wide (n : Nat) (t0 : L_code_reader) : Option (Int × L_code_reader) :=
 if ((t0.2.1 != 0) = true) then
  some (0, t0)
 else (num_Get n t0.1).bind fun r0 =>
  if ((0 ≤ r0.2.1) ∧ (r0.2.1 ≤ (t0.1.length : Int))) then
   some (r0.1, (t0.1.drop r0.2.1.toNat), r0.2.2, ())
  else none
noncomputable def code_reader_wide_e (n : Nat) : Env := mkEnv T_ A_ N_ [(58, num_Get_c n)] [] 34
noncomputable def code_reader_wide_c (n : Nat) : Con := mkCon [(.box (.val Y_code_reader))] [(.val (.int .u64))] (fun x => code_reader_wide n x.1)
theorem code_reader_wide_ok (n : Nat) : EnvOK Try.prog (code_reader_wide_e n) := mkEnv_ok tabs ⟨⟨num_Get_m n, fok58⟩, trivial⟩
theorem code_reader_wide_m (n : Nat) : Meets Try.prog 52 (code_reader_wide_c n) :=
 con_meets (l := []) mixed Try.func52 (by kernel_rfl) (code_reader_wide_ok n) (by kernel_rfl) (by kernel_rfl) (by kernel_rfl) trivial (fun x => by kernel_rfl)
/-! 29 (*lockstep/code.reader).num -/
noncomputable def code_reader_num (n : Nat) (t0 : L_code_reader) : Option (Int × L_code_reader) :=
 (code_reader_wide n t0).bind fun r0 =>
  if (decide (r0.1 > 2147483647) = true) then
   some (0, r0.2.1, 4, ())
  else some ((IntKind.wrap .i64 r0.1), r0.2)
noncomputable def code_reader_num_e (n : Nat) : Env := mkEnv T_ A_ N_ [(52, code_reader_wide_c n)] [] 13
noncomputable def code_reader_num_c (n : Nat) : Con := mkCon [(.box (.val Y_code_reader))] [(.val (.int .i64))] (fun x => code_reader_num n x.1)
theorem code_reader_num_ok (n : Nat) : EnvOK Try.prog (code_reader_num_e n) := mkEnv_ok tabs ⟨⟨code_reader_wide_m n, fok52⟩, trivial⟩
theorem code_reader_num_m (n : Nat) : Meets Try.prog 29 (code_reader_num_c n) :=
 con_meets (l := []) mixed Try.func29 (by kernel_rfl) (code_reader_num_ok n) (by kernel_rfl) (by kernel_rfl) (by kernel_rfl) trivial (fun x => by kernel_rfl)
/-! 30 (*lockstep/code.reader).count -/
noncomputable def code_reader_count (n : Nat) (t0 : L_code_reader) (t1 : Int) : Option (Int × L_code_reader) :=
 (code_reader_wide n t0).bind fun r0 =>
  if (decide (r0.1 > (IntKind.wrap .u64 t1)) = true) then
   some (0, r0.2.1, 4, ())
  else some ((IntKind.wrap .i64 r0.1), r0.2)
noncomputable def code_reader_count_e (n : Nat) : Env := mkEnv T_ A_ N_ [(52, code_reader_wide_c n)] [] 17
noncomputable def code_reader_count_c (n : Nat) : Con := mkCon [(.box (.val Y_code_reader)), (.val (.int .i64))] [(.val (.int .i64))] (fun x => code_reader_count n x.1 x.2.1)
theorem code_reader_count_ok (n : Nat) : EnvOK Try.prog (code_reader_count_e n) := mkEnv_ok tabs ⟨⟨code_reader_wide_m n, fok52⟩, trivial⟩
theorem code_reader_count_m (n : Nat) : Meets Try.prog 30 (code_reader_count_c n) :=
 con_meets (l := []) mixed Try.func30 (by kernel_rfl) (code_reader_count_ok n) (by kernel_rfl) (by kernel_rfl) (by kernel_rfl) trivial (fun x => by kernel_rfl)
/-! 54 (*lockstep/code.reader).phi -/
noncomputable def code_reader_phi (n : Nat) (t0 : L_code_reader) : Option (L_api_Phi × L_code_reader) :=
 (code_reader_num n t0).bind fun r0 =>
  (code_reader_num n r0.2).bind fun r1 =>
   (code_reader_list n r1.2 64).bind fun r2 =>
    (code_reader_list n r2.2 64).bind fun r3 =>
     some ((r0.1, r1.1, r2.1, r3.1, ()), r3.2)
noncomputable def code_reader_phi_e (n : Nat) : Env := mkEnv T_ A_ N_ [(28, code_reader_list_c n), (29, code_reader_num_c n)] [] 12
noncomputable def code_reader_phi_c (n : Nat) : Con := mkCon [(.box (.val Y_code_reader))] [(.val Y_api_Phi)] (fun x => code_reader_phi n x.1)
theorem code_reader_phi_ok (n : Nat) : EnvOK Try.prog (code_reader_phi_e n) := mkEnv_ok tabs ⟨⟨code_reader_list_m n, fok28⟩, ⟨code_reader_num_m n, fok29⟩, trivial⟩
theorem code_reader_phi_m (n : Nat) : Meets Try.prog 54 (code_reader_phi_c n) :=
 con_meets (l := []) mixed Try.func54 (by kernel_rfl) (code_reader_phi_ok n) (by kernel_rfl) (by kernel_rfl) (by kernel_rfl) trivial (fun x => by kernel_rfl)
/-! 53 lockstep/code.some[lockstep/api.Phi] -/
noncomputable def code_some_api_Phi_code_reader_phi_l3 : Nat → L_code_reader → Unit → Int → (List L_api_Phi) → Int → Option (Sum ((List L_api_Phi) × L_code_reader) ((List L_api_Phi) × L_code_reader))
 | 0, _, _, _, _, _ => none
 | n + 1, t0, t1, t8, t5, t9 =>
  if (decide (t9 < t8) = true) then
   (code_reader_phi n t0).bind fun r0 =>
    if ((r0.2.2.1 != 0) = true) then
     some (.inr ([], r0.2))
    else if ((t5 ++ [r0.1]).length ≤ Ev.most) then
     (code_some_api_Phi_code_reader_phi_l3 n r0.2 () t8 (t5 ++ [r0.1]) (IntKind.wrap .i64 (t9 + 1)))
    else none
  else some (.inl (t5, t0))
noncomputable def code_some_api_Phi_code_reader_phi (n : Nat) (t0 : L_code_reader) (t1 : Unit) : Option ((List L_api_Phi) × L_code_reader) :=
 (code_reader_count n t0 512).bind fun r0 =>
  (code_some_api_Phi_code_reader_phi_l3 n r0.2 () r0.1 [] 0).bind fun r1 =>
   match r1 with
    | .inl r2 =>
     some r2
    | .inr r2 =>
     some r2
noncomputable def code_some_api_Phi_code_reader_phi_l3_h : Sh := ⟨[(0, (.box (.val Y_code_reader))), (1, (.pal 54 true 0)), (8, (.val (.int .i64)))], [(5, (.own Y_api_Phi)), (9, (.val (.int .i64)))], [4, 5, 6, 9, 10, 11, 12, 13, 14, 15, 16, 17, 18, 19, 20, 21, 22], [⟨.exit 0, [(5, (.own Y_api_Phi))]⟩, ⟨.ret, [(4, (.own Y_api_Phi))]⟩]⟩
noncomputable def code_some_api_Phi_code_reader_phi_l3_F (n : Nat) : code_some_api_Phi_code_reader_phi_l3_h.Fn := fun x y => code_some_api_Phi_code_reader_phi_l3 n x.1 x.2.1 x.2.2.1 y.1 y.2.1
noncomputable def code_some_api_Phi_code_reader_phi_l3_k (n : Nat) : Cut := code_some_api_Phi_code_reader_phi_l3_h.cut (code_some_api_Phi_code_reader_phi_l3_F n)
noncomputable def code_some_api_Phi_code_reader_phi_e (n : Nat) : Env := mkEnv T_ A_ N_ [(30, code_reader_count_c n), (54, code_reader_phi_c n)] [((0, 3, 8), code_some_api_Phi_code_reader_phi_l3_k n)] 24
noncomputable def code_some_api_Phi_code_reader_phi_c (n : Nat) : Con := mkCon [(.box (.val Y_code_reader)), (.pal 54 true 0)] [(.val (.list Y_api_Phi))] (fun x => code_some_api_Phi_code_reader_phi n x.1 x.2.1)
theorem code_some_api_Phi_code_reader_phi_ok (n : Nat) : EnvOK Try.prog (code_some_api_Phi_code_reader_phi_e n) := mkEnv_ok tabs ⟨⟨code_reader_count_m n, fok30⟩, ⟨code_reader_phi_m n, fok54⟩, trivial⟩
theorem code_some_api_Phi_code_reader_phi_l3_m (n : Nat) : CutMeets Try.prog (.loop (codeAt [1, 1, 0, 1, 0, 0] (bodyOf Try.f53))) 24 (code_some_api_Phi_code_reader_phi_l3_k n) :=
 loop_ok code_some_api_Phi_code_reader_phi_l3_h code_some_api_Phi_code_reader_phi_l3_F (E := code_some_api_Phi_code_reader_phi_e) (l := fun n => []) mixed (fun _ => rfl) code_some_api_Phi_code_reader_phi_ok (by kernel_rfl) (fun _ => by kernel_rfl) (fun n => trivial) (fun _ _ => rfl) (fun n x y => by kernel_rfl) n
theorem code_some_api_Phi_code_reader_phi_m (n : Nat) : Meets Try.prog 53 (code_some_api_Phi_code_reader_phi_c n) :=
 con_meets (l := [(Code.loop (codeAt [1, 1, 0, 1, 0, 0] (bodyOf Try.f53)), code_some_api_Phi_code_reader_phi_l3_k n)]) mixed Try.func53 (by kernel_rfl) (code_some_api_Phi_code_reader_phi_ok n) (by kernel_rfl) (by kernel_rfl) (by kernel_rfl) ⟨code_some_api_Phi_code_reader_phi_l3_m n, trivial⟩ (fun x => by kernel_rfl)
/-! 56 (*lockstep/code.reader).op -/
noncomputable def code_reader_op (n : Nat) (t0 : L_code_reader) : Option (L_api_Op × L_code_reader) :=
 (code_reader_num n t0).bind fun r0 =>
  (code_reader_num n r0.2).bind fun r1 =>
   (code_reader_num n r1.2).bind fun r2 =>
    (code_reader_num n r2.2).bind fun r3 =>
     (code_reader_list n r3.2 64).bind fun r4 =>
      (code_reader_wide n r4.2).bind fun r5 =>
       some ((r0.1, r1.1, r2.1, r3.1, r4.1, r5.1, ()), r5.2)
noncomputable def code_reader_op_e (n : Nat) : Env := mkEnv T_ A_ N_ [(28, code_reader_list_c n), (52, code_reader_wide_c n), (29, code_reader_num_c n)] [] 16
noncomputable def code_reader_op_c (n : Nat) : Con := mkCon [(.box (.val Y_code_reader))] [(.val Y_api_Op)] (fun x => code_reader_op n x.1)
theorem code_reader_op_ok (n : Nat) : EnvOK Try.prog (code_reader_op_e n) := mkEnv_ok tabs ⟨⟨code_reader_list_m n, fok28⟩, ⟨code_reader_wide_m n, fok52⟩, ⟨code_reader_num_m n, fok29⟩, trivial⟩
theorem code_reader_op_m (n : Nat) : Meets Try.prog 56 (code_reader_op_c n) :=
 con_meets (l := []) mixed Try.func56 (by kernel_rfl) (code_reader_op_ok n) (by kernel_rfl) (by kernel_rfl) (by kernel_rfl) trivial (fun x => by kernel_rfl)
/-! 55 lockstep/code.some[lockstep/api.Op] -/
noncomputable def code_some_api_Op_code_reader_op_l3 : Nat → L_code_reader → Unit → Int → (List L_api_Op) → Int → Option (Sum ((List L_api_Op) × L_code_reader) ((List L_api_Op) × L_code_reader))
 | 0, _, _, _, _, _ => none
 | n + 1, t0, t1, t8, t5, t9 =>
  if (decide (t9 < t8) = true) then
   (code_reader_op n t0).bind fun r0 =>
    if ((r0.2.2.1 != 0) = true) then
     some (.inr ([], r0.2))
    else if ((t5 ++ [r0.1]).length ≤ Ev.most) then
     (code_some_api_Op_code_reader_op_l3 n r0.2 () t8 (t5 ++ [r0.1]) (IntKind.wrap .i64 (t9 + 1)))
    else none
  else some (.inl (t5, t0))
noncomputable def code_some_api_Op_code_reader_op (n : Nat) (t0 : L_code_reader) (t1 : Unit) : Option ((List L_api_Op) × L_code_reader) :=
 (code_reader_count n t0 512).bind fun r0 =>
  (code_some_api_Op_code_reader_op_l3 n r0.2 () r0.1 [] 0).bind fun r1 =>
   match r1 with
    | .inl r2 =>
     some r2
    | .inr r2 =>
     some r2
noncomputable def code_some_api_Op_code_reader_op_l3_h : Sh := ⟨[(0, (.box (.val Y_code_reader))), (1, (.pal 56 true 0)), (8, (.val (.int .i64)))], [(5, (.own Y_api_Op)), (9, (.val (.int .i64)))], [4, 5, 6, 9, 10, 11, 12, 13, 14, 15, 16, 17, 18, 19, 20, 21, 22], [⟨.exit 0, [(5, (.own Y_api_Op))]⟩, ⟨.ret, [(4, (.own Y_api_Op))]⟩]⟩
noncomputable def code_some_api_Op_code_reader_op_l3_F (n : Nat) : code_some_api_Op_code_reader_op_l3_h.Fn := fun x y => code_some_api_Op_code_reader_op_l3 n x.1 x.2.1 x.2.2.1 y.1 y.2.1
noncomputable def code_some_api_Op_code_reader_op_l3_k (n : Nat) : Cut := code_some_api_Op_code_reader_op_l3_h.cut (code_some_api_Op_code_reader_op_l3_F n)
noncomputable def code_some_api_Op_code_reader_op_e (n : Nat) : Env := mkEnv T_ A_ N_ [(30, code_reader_count_c n), (56, code_reader_op_c n)] [((0, 3, 8), code_some_api_Op_code_reader_op_l3_k n)] 24
noncomputable def code_some_api_Op_code_reader_op_c (n : Nat) : Con := mkCon [(.box (.val Y_code_reader)), (.pal 56 true 0)] [(.val (.list Y_api_Op))] (fun x => code_some_api_Op_code_reader_op n x.1 x.2.1)
theorem code_some_api_Op_code_reader_op_ok (n : Nat) : EnvOK Try.prog (code_some_api_Op_code_reader_op_e n) := mkEnv_ok tabs ⟨⟨code_reader_count_m n, fok30⟩, ⟨code_reader_op_m n, fok56⟩, trivial⟩
theorem code_some_api_Op_code_reader_op_l3_m (n : Nat) : CutMeets Try.prog (.loop (codeAt [1, 1, 0, 1, 0, 0] (bodyOf Try.f55))) 24 (code_some_api_Op_code_reader_op_l3_k n) :=
 loop_ok code_some_api_Op_code_reader_op_l3_h code_some_api_Op_code_reader_op_l3_F (E := code_some_api_Op_code_reader_op_e) (l := fun n => []) mixed (fun _ => rfl) code_some_api_Op_code_reader_op_ok (by kernel_rfl) (fun _ => by kernel_rfl) (fun n => trivial) (fun _ _ => rfl) (fun n x y => by kernel_rfl) n
theorem code_some_api_Op_code_reader_op_m (n : Nat) : Meets Try.prog 55 (code_some_api_Op_code_reader_op_c n) :=
 con_meets (l := [(Code.loop (codeAt [1, 1, 0, 1, 0, 0] (bodyOf Try.f55)), code_some_api_Op_code_reader_op_l3_k n)]) mixed Try.func55 (by kernel_rfl) (code_some_api_Op_code_reader_op_ok n) (by kernel_rfl) (by kernel_rfl) (by kernel_rfl) ⟨code_some_api_Op_code_reader_op_l3_m n, trivial⟩ (fun x => by kernel_rfl)
/-! 31 (*lockstep/code.reader).block -/
noncomputable def code_reader_block (n : Nat) (t0 : L_code_reader) : Option (L_api_Block × L_code_reader) :=
 (code_some_api_Phi_code_reader_phi n t0 ()).bind fun r0 =>
  (code_some_api_Op_code_reader_op n r0.2 ()).bind fun r1 =>
   (code_reader_num n r1.2).bind fun r2 =>
    (code_reader_num n r2.2).bind fun r3 =>
     (code_reader_list n r3.2 64).bind fun r4 =>
      some ((r0.1, r1.1, (r2.1, r3.1, r4.1, ()), ()), r4.2)
noncomputable def code_reader_block_e (n : Nat) : Env := mkEnv T_ A_ N_ [(28, code_reader_list_c n), (29, code_reader_num_c n), (54, code_reader_phi_c n), (53, code_some_api_Phi_code_reader_phi_c n), (56, code_reader_op_c n), (55, code_some_api_Op_code_reader_op_c n)] [] 22
noncomputable def code_reader_block_c (n : Nat) : Con := mkCon [(.box (.val Y_code_reader))] [(.val Y_api_Block)] (fun x => code_reader_block n x.1)
theorem code_reader_block_ok (n : Nat) : EnvOK Try.prog (code_reader_block_e n) := mkEnv_ok tabs ⟨⟨code_reader_list_m n, fok28⟩, ⟨code_reader_num_m n, fok29⟩, ⟨code_reader_phi_m n, fok54⟩, ⟨code_some_api_Phi_code_reader_phi_m n, fok53⟩, ⟨code_reader_op_m n, fok56⟩, ⟨code_some_api_Op_code_reader_op_m n, fok55⟩, trivial⟩
theorem code_reader_block_m (n : Nat) : Meets Try.prog 31 (code_reader_block_c n) :=
 con_meets (l := []) mixed Try.func31 (by kernel_rfl) (code_reader_block_ok n) (by kernel_rfl) (by kernel_rfl) (by kernel_rfl) trivial (fun x => by kernel_rfl)
/-! 14 lockstep/code.Size -/
noncomputable def code_Size_l3 : Nat → (List L_api_Block) → Int → Int → Int → Option Int
 | 0, _, _, _, _ => none
 | n + 1, t10, t11, t3, t12 =>
  if (decide (t12 < t11) = true) then
   if ((0 ≤ t12) ∧ (t12 < (t10.length : Int))) then
    (code_Size_l3 n t10 t11 (IntKind.wrap .i64 (t3 + (IntKind.wrap .i64 ((((t10.getD t12.toNat ([], [], (0, 0, [], ()), ())).1).length : Int) + ((((t10.getD t12.toNat ([], [], (0, 0, [], ()), ())).2).1).length : Int))))) (IntKind.wrap .i64 (t12 + 1)))
   else none
  else some t3
noncomputable def code_Size (n : Nat) (t0 : L_api_Func) : Option Int :=
 (code_Size_l3 n t0.2.2.1 (t0.2.2.1.length : Int) (t0.2.2.1.length : Int) 0).bind fun r0 =>
  some r0
noncomputable def code_Size_l3_h : Sh := ⟨[(10, (.val (.list Y_api_Block))), (11, (.val (.int .i64)))], [(3, (.val (.int .i64))), (12, (.val (.int .i64)))], [3, 5, 12, 13, 14, 15, 16, 17, 18, 19, 20, 21, 22, 23, 24, 25], [⟨.exit 0, [(3, (.val (.int .i64)))]⟩]⟩
noncomputable def code_Size_l3_F (n : Nat) : code_Size_l3_h.Fn := fun x y => code_Size_l3 n x.1 x.2.1 y.1 y.2.1
noncomputable def code_Size_l3_k (n : Nat) : Cut := code_Size_l3_h.cut (code_Size_l3_F n)
noncomputable def code_Size_e (n : Nat) : Env := mkEnv T_ A_ N_ [] [((0, 3, 6), code_Size_l3_k n)] 27
noncomputable def code_Size_c (n : Nat) : Con := mkCon [(.val Y_api_Func)] [(.val (.int .i64))] (fun x => code_Size n x.1)
theorem code_Size_ok (n : Nat) : EnvOK Try.prog (code_Size_e n) := mkEnv_ok tabs trivial
theorem code_Size_l3_m (n : Nat) : CutMeets Try.prog (.loop (codeAt [1, 1, 0, 1, 0, 0] (bodyOf Try.f14))) 27 (code_Size_l3_k n) :=
 loop_ok code_Size_l3_h code_Size_l3_F (E := code_Size_e) (l := fun n => []) mixed (fun _ => rfl) code_Size_ok (by kernel_rfl) (fun _ => by kernel_rfl) (fun n => trivial) (fun _ _ => rfl) (fun n x y => by kernel_rfl) n
theorem code_Size_m (n : Nat) : Meets Try.prog 14 (code_Size_c n) :=
 con_meets (l := [(Code.loop (codeAt [1, 1, 0, 1, 0, 0] (bodyOf Try.f14)), code_Size_l3_k n)]) mixed Try.func14 (by kernel_rfl) (code_Size_ok n) (by kernel_rfl) (by kernel_rfl) (by kernel_rfl) ⟨code_Size_l3_m n, trivial⟩ (fun x => by kernel_rfl)
/-! 12 lockstep/code.Decode -/
noncomputable def code_Decode_l8 : Nat → L_api_Func → L_code_reader → L_api_Func → Int → Int → Option (Sum (L_api_Func × (L_code_reader × L_api_Func)) (L_api_Func × (L_code_reader × L_api_Func)))
 | 0, _, _, _, _, _ => none
 | n + 1, t2, t4, t5, t27, t28 =>
  if (decide (t28 < t27) = true) then
   (code_reader_block n t4).bind fun r0 =>
    if ((t5.2.2.1 ++ [r0.1]).length ≤ Ev.most) then
     if ((r0.2.2.1 != 0) = true) then
      some (.inr (t2, r0.2, t5.1, t5.2.1, (t5.2.2.1 ++ [r0.1]), ()))
     else (code_Decode_l8 n t2 r0.2 (t5.1, t5.2.1, (t5.2.2.1 ++ [r0.1]), ()) t27 (IntKind.wrap .i64 (t28 + 1)))
    else none
  else some (.inl (t2, t4, t5))
noncomputable def code_Decode_s1_j0 : Nat → (List Int) → L_api_Func → L_code_reader → Option (Sum (Int × L_api_Func) (Int × L_api_Func))
 | 0, _, _, _ => none
 | n + 1, t0, t2, t4 =>
  some (.inl (t4.2.1, [], 0, [], ()))
noncomputable def code_Decode_s1 (n : Nat) (t0 : (List Int)) (t2 : L_api_Func) : Option (Sum (Int × L_api_Func) (Int × L_api_Func)) :=
  (code_reader_list n (t0, 0, ()) 16).bind fun r0 =>
   (code_reader_num n r0.2).bind fun r1 =>
    (code_reader_count n r1.2 64).bind fun r2 =>
     if ((r2.2.2.1 != 0) = true) then
      (code_Decode_s1_j0 n t0 t2 r2.2)
     else if ((r2.1 == 0) = true) then
      (code_Decode_s1_j0 n t0 t2 (r2.2.1, 4, ()))
     else (code_Decode_l8 n t2 r2.2 (r0.1, r1.1, [], ()) r2.1 0).bind fun r3 =>
      match r3 with
       | .inl r4 =>
        if (decide ((r4.2.1.1.length : Int) > 0) = true) then
         (code_Decode_s1_j0 n t0 r4.1 (r4.2.1.1, 3, ()))
        else (code_Size n r4.2.2).bind fun r5 =>
         if (decide (r5 > 512) = true) then
          (code_Decode_s1_j0 n t0 r4.1 (r4.2.1.1, 4, ()))
         else some (.inl (0, r4.2.2))
       | .inr r4 =>
        (code_Decode_s1_j0 n t0 r4.1 r4.2.1)
noncomputable def code_Decode (n : Nat) (t0 : (List Int)) : Option (L_api_Func × Int) :=
 (code_Decode_s1 n t0 ([], 0, [], ())).bind fun r0 =>
  match r0 with
   | .inl r1 =>
    some (r1.2, r1.1)
   | .inr r1 =>
    some (r1.2, r1.1)
noncomputable def code_Decode_l8_h : Sh := ⟨[(2, (.box (.val Y_api_Func))), (4, (.box (.val Y_code_reader))), (5, (.box (.pair (.val (.list (.int .i64))) (.pair (.val (.int .i64)) (.pair (.own Y_api_Block) .unit))))), (27, (.val (.int .i64)))], [(28, (.val (.int .i64)))], [28, 29, 30, 31, 32, 33, 34, 35, 36, 37, 38, 39, 40, 41, 42], [⟨.exit 0, []⟩, ⟨.goto 0, []⟩]⟩
noncomputable def code_Decode_l8_F (n : Nat) : code_Decode_l8_h.Fn := fun x y => code_Decode_l8 n x.1 x.2.1 x.2.2.1 x.2.2.2.1 y.1
noncomputable def code_Decode_l8_k (n : Nat) : Cut := code_Decode_l8_h.cut (code_Decode_l8_F n)
noncomputable def code_Decode_s1_h : Sh := ⟨[(0, (.val (.list (.int .u8)))), (2, (.box (.val Y_api_Func)))], [], [3, 4, 5, 6, 7, 8, 9, 10, 11, 12, 13, 14, 15, 16, 17, 18, 19, 20, 21, 22, 23, 24, 25, 26, 27, 28, 29, 30, 31, 32, 33, 34, 35, 36, 37, 38, 39, 40, 41, 42, 43, 44, 45, 46, 47, 48, 49, 50, 51, 52, 53, 54, 55, 56, 57, 58, 59, 60, 61, 62, 63], [⟨.ret, [(3, (.val (.int .i64)))]⟩, ⟨.normal, [(3, (.val (.int .i64)))]⟩]⟩
noncomputable def code_Decode_s1_F (n : Nat) : code_Decode_s1_h.Fn := fun x y => code_Decode_s1 n x.1 x.2.1
noncomputable def code_Decode_s1_k (n : Nat) : Cut := code_Decode_s1_h.cut (code_Decode_s1_F n)
noncomputable def code_Decode_s1_L : List (Lab code_Decode_s1_h) := [⟨0, [(4, (.box (.val Y_code_reader)))], fun n x y => code_Decode_s1_j0 n x.1 x.2.1 y.1⟩]
noncomputable def code_Decode_e (n : Nat) : Env := mkEnv T_ A_ N_ [(28, code_reader_list_c n), (29, code_reader_num_c n), (30, code_reader_count_c n), (31, code_reader_block_c n), (14, code_Size_c n)] [((0, 8, 11), code_Decode_l8_k n), ((1, 1, 0), code_Decode_s1_k n)] 64
noncomputable def code_Decode_c (n : Nat) : Con := mkCon [(.val (.list (.int .u8)))] [(.val Y_api_Func), (.val (.int .i64))] (fun x => code_Decode n x.1)
theorem code_Decode_ok (n : Nat) : EnvOK Try.prog (code_Decode_e n) := mkEnv_ok tabs ⟨⟨code_reader_list_m n, fok28⟩, ⟨code_reader_num_m n, fok29⟩, ⟨code_reader_count_m n, fok30⟩, ⟨code_reader_block_m n, fok31⟩, ⟨code_Size_m n, fok14⟩, trivial⟩
theorem code_Decode_l8_m (n : Nat) : CutMeets Try.prog (.loop (codeAt [1, 0, 1, 1, 1, 1, 1, 0, 1, 0, 0] (bodyOf Try.f12))) 64 (code_Decode_l8_k n) :=
 loop_ok code_Decode_l8_h code_Decode_l8_F (E := code_Decode_e) (l := fun n => []) mixed (fun _ => rfl) code_Decode_ok (by kernel_rfl) (fun _ => by kernel_rfl) (fun n => trivial) (fun _ _ => rfl) (fun n x y => by kernel_rfl) n
theorem code_Decode_s1_m (n : Nat) : CutMeets Try.prog (.scope (codeAt [1, 0] (bodyOf Try.f12))) 64 (code_Decode_s1_k n) :=
 scope_ok code_Decode_s1_h (code_Decode_s1_F n) code_Decode_s1_L (E := code_Decode_e) (l := fun n => [(Code.loop (codeAt [1, 0, 1, 1, 1, 1, 1, 0, 1, 0, 0] (bodyOf Try.f12)), code_Decode_l8_k n)]) mixed (fun _ => rfl) code_Decode_ok (by kernel_rfl) (fun _ => by kernel_rfl) (fun n => ⟨code_Decode_l8_m n, trivial⟩) ⟨⟨fun _ _ => rfl, by kernel_rfl, fun n => [], fun _ => by kernel_rfl, fun n => trivial, fun n x y => by kernel_rfl⟩, trivial⟩ n (fun x y => by kernel_rfl)
theorem code_Decode_m (n : Nat) : Meets Try.prog 12 (code_Decode_c n) :=
 con_meets (l := [(Code.scope (codeAt [1, 0] (bodyOf Try.f12)), code_Decode_s1_k n)]) mixed Try.func12 (by kernel_rfl) (code_Decode_ok n) (by kernel_rfl) (by kernel_rfl) (by kernel_rfl) ⟨code_Decode_s1_m n, trivial⟩ (fun x => by kernel_rfl)
/-! 48 lockstep/code.in$1 -/
noncomputable def code_in_1 (n : Nat) (t0 : Int) : Option Bool :=
 if (decide (t0 < 0) = false) then
  some (decide (t0 > 2147483647))
 else some true
noncomputable def code_in_1_e (n : Nat) : Env := mkEnv T_ A_ N_ [] [] 9
noncomputable def code_in_1_c (n : Nat) : Con := mkCon [(.val (.int .i64))] [(.val .bool)] (fun x => code_in_1 n x.1)
theorem code_in_1_ok (n : Nat) : EnvOK Try.prog (code_in_1_e n) := mkEnv_ok tabs trivial
theorem code_in_1_m (n : Nat) : Meets Try.prog 48 (code_in_1_c n) :=
 con_meets (l := []) mixed Try.func48 (by kernel_rfl) (code_in_1_ok n) (by kernel_rfl) (by kernel_rfl) (by kernel_rfl) trivial (fun x => by kernel_rfl)
/-! 57 slices.IndexFunc[[]int,int] -/
noncomputable def slices_IndexFunc_int_int_code_in_1_l2 : Nat → (List Int) → Unit → Int → Int → Option (Sum Unit Int)
 | 0, _, _, _, _ => none
 | n + 1, t0, t1, t7, t8 =>
  if (decide (t8 < t7) = true) then
   if ((0 ≤ t8) ∧ (t8 < (t0.length : Int))) then
    (code_in_1 n (t0.getD t8.toNat 0)).bind fun r0 =>
     if (r0 = true) then
      some (.inr t8)
     else (slices_IndexFunc_int_int_code_in_1_l2 n t0 () t7 (IntKind.wrap .i64 (t8 + 1)))
   else none
  else some (.inl ())
noncomputable def slices_IndexFunc_int_int_code_in_1 (n : Nat) (t0 : (List Int)) (t1 : Unit) : Option Int :=
 (slices_IndexFunc_int_int_code_in_1_l2 n t0 () (t0.length : Int) 0).bind fun r0 =>
  match r0 with
   | .inl r1 =>
    some (-1)
   | .inr r1 =>
    some r1
noncomputable def slices_IndexFunc_int_int_code_in_1_l2_h : Sh := ⟨[(0, (.val (.list (.int .i64)))), (1, (.func 48 0 .unit)), (7, (.val (.int .i64)))], [(8, (.val (.int .i64)))], [4, 5, 8, 9, 10, 11, 12, 13, 14, 15, 16, 17, 18], [⟨.exit 0, []⟩, ⟨.ret, [(4, (.val (.int .i64)))]⟩]⟩
noncomputable def slices_IndexFunc_int_int_code_in_1_l2_F (n : Nat) : slices_IndexFunc_int_int_code_in_1_l2_h.Fn := fun x y => slices_IndexFunc_int_int_code_in_1_l2 n x.1 x.2.1 x.2.2.1 y.1
noncomputable def slices_IndexFunc_int_int_code_in_1_l2_k (n : Nat) : Cut := slices_IndexFunc_int_int_code_in_1_l2_h.cut (slices_IndexFunc_int_int_code_in_1_l2_F n)
noncomputable def slices_IndexFunc_int_int_code_in_1_e (n : Nat) : Env := mkEnv T_ A_ N_ [(48, code_in_1_c n)] [((0, 2, 6), slices_IndexFunc_int_int_code_in_1_l2_k n)] 19
noncomputable def slices_IndexFunc_int_int_code_in_1_c (n : Nat) : Con := mkCon [(.val (.list (.int .i64))), (.func 48 0 .unit)] [(.val (.int .i64))] (fun x => slices_IndexFunc_int_int_code_in_1 n x.1 x.2.1)
theorem slices_IndexFunc_int_int_code_in_1_ok (n : Nat) : EnvOK Try.prog (slices_IndexFunc_int_int_code_in_1_e n) := mkEnv_ok tabs ⟨⟨code_in_1_m n, fok48⟩, trivial⟩
theorem slices_IndexFunc_int_int_code_in_1_l2_m (n : Nat) : CutMeets Try.prog (.loop (codeAt [1, 0, 1, 0, 0] (bodyOf Try.f57))) 19 (slices_IndexFunc_int_int_code_in_1_l2_k n) :=
 loop_ok slices_IndexFunc_int_int_code_in_1_l2_h slices_IndexFunc_int_int_code_in_1_l2_F (E := slices_IndexFunc_int_int_code_in_1_e) (l := fun n => []) mixed (fun _ => rfl) slices_IndexFunc_int_int_code_in_1_ok (by kernel_rfl) (fun _ => by kernel_rfl) (fun n => trivial) (fun _ _ => rfl) (fun n x y => by kernel_rfl) n
theorem slices_IndexFunc_int_int_code_in_1_m (n : Nat) : Meets Try.prog 57 (slices_IndexFunc_int_int_code_in_1_c n) :=
 con_meets (l := [(Code.loop (codeAt [1, 0, 1, 0, 0] (bodyOf Try.f57)), slices_IndexFunc_int_int_code_in_1_l2_k n)]) mixed Try.func57 (by kernel_rfl) (slices_IndexFunc_int_int_code_in_1_ok n) (by kernel_rfl) (by kernel_rfl) (by kernel_rfl) ⟨slices_IndexFunc_int_int_code_in_1_l2_m n, trivial⟩ (fun x => by kernel_rfl)
/-! 47 slices.ContainsFunc[[]int,int] -/
noncomputable def slices_ContainsFunc_int_int_code_in_1 (n : Nat) (t0 : (List Int)) (t1 : Unit) : Option Bool :=
 (slices_IndexFunc_int_int_code_in_1 n t0 ()).bind fun r0 =>
  some (decide (r0 ≥ 0))
noncomputable def slices_ContainsFunc_int_int_code_in_1_e (n : Nat) : Env := mkEnv T_ A_ N_ [(48, code_in_1_c n), (57, slices_IndexFunc_int_int_code_in_1_c n)] [] 9
noncomputable def slices_ContainsFunc_int_int_code_in_1_c (n : Nat) : Con := mkCon [(.val (.list (.int .i64))), (.func 48 0 .unit)] [(.val .bool)] (fun x => slices_ContainsFunc_int_int_code_in_1 n x.1 x.2.1)
theorem slices_ContainsFunc_int_int_code_in_1_ok (n : Nat) : EnvOK Try.prog (slices_ContainsFunc_int_int_code_in_1_e n) := mkEnv_ok tabs ⟨⟨code_in_1_m n, fok48⟩, ⟨slices_IndexFunc_int_int_code_in_1_m n, fok57⟩, trivial⟩
theorem slices_ContainsFunc_int_int_code_in_1_m (n : Nat) : Meets Try.prog 47 (slices_ContainsFunc_int_int_code_in_1_c n) :=
 con_meets (l := []) mixed Try.func47 (by kernel_rfl) (slices_ContainsFunc_int_int_code_in_1_ok n) (by kernel_rfl) (by kernel_rfl) (by kernel_rfl) trivial (fun x => by kernel_rfl)
/-! 24 lockstep/code.in -/
noncomputable def code_in (n : Nat) (t0 : (List Int)) : Option Bool :=
 (slices_ContainsFunc_int_int_code_in_1 n t0 ()).bind fun r0 =>
  some (!r0)
noncomputable def code_in_e (n : Nat) : Env := mkEnv T_ A_ N_ [(48, code_in_1_c n), (47, slices_ContainsFunc_int_int_code_in_1_c n)] [] 6
noncomputable def code_in_c (n : Nat) : Con := mkCon [(.val (.list (.int .i64)))] [(.val .bool)] (fun x => code_in n x.1)
theorem code_in_ok (n : Nat) : EnvOK Try.prog (code_in_e n) := mkEnv_ok tabs ⟨⟨code_in_1_m n, fok48⟩, ⟨slices_ContainsFunc_int_int_code_in_1_m n, fok47⟩, trivial⟩
theorem code_in_m (n : Nat) : Meets Try.prog 24 (code_in_c n) :=
 con_meets (l := []) mixed Try.func24 (by kernel_rfl) (code_in_ok n) (by kernel_rfl) (by kernel_rfl) (by kernel_rfl) trivial (fun x => by kernel_rfl)
/-! 50 lockstep/code.lists -/
noncomputable def code_lists_l2 : Nat → (List (List Int)) → Int → Int → Option (Sum Unit Bool)
 | 0, _, _, _ => none
 | n + 1, t5, t6, t7 =>
  if (decide (t7 < t6) = true) then
   if ((0 ≤ t7) ∧ (t7 < (t5.length : Int))) then
    if (decide (((t5.getD t7.toNat []).length : Int) > 64) = false) then
     (code_in n (t5.getD t7.toNat [])).bind fun r0 =>
      if ((!r0) = true) then
       some (.inr false)
      else (code_lists_l2 n t5 t6 (IntKind.wrap .i64 (t7 + 1)))
    else some (.inr false)
   else none
  else some (.inl ())
noncomputable def code_lists (n : Nat) (t0 : (List (List Int))) : Option Bool :=
 (code_lists_l2 n t0 (t0.length : Int) 0).bind fun r0 =>
  match r0 with
   | .inl r1 =>
    some true
   | .inr r1 =>
    some r1
noncomputable def code_lists_l2_h : Sh := ⟨[(5, (.val (.list (.list (.int .i64))))), (6, (.val (.int .i64)))], [(7, (.val (.int .i64)))], [2, 4, 7, 8, 9, 10, 11, 12, 13, 14, 15, 16, 17, 18, 19], [⟨.exit 0, []⟩, ⟨.ret, [(2, (.val .bool))]⟩]⟩
noncomputable def code_lists_l2_F (n : Nat) : code_lists_l2_h.Fn := fun x y => code_lists_l2 n x.1 x.2.1 y.1
noncomputable def code_lists_l2_k (n : Nat) : Cut := code_lists_l2_h.cut (code_lists_l2_F n)
noncomputable def code_lists_e (n : Nat) : Env := mkEnv T_ A_ N_ [(24, code_in_c n)] [((0, 2, 6), code_lists_l2_k n)] 20
noncomputable def code_lists_c (n : Nat) : Con := mkCon [(.val (.list (.list (.int .i64))))] [(.val .bool)] (fun x => code_lists n x.1)
theorem code_lists_ok (n : Nat) : EnvOK Try.prog (code_lists_e n) := mkEnv_ok tabs ⟨⟨code_in_m n, fok24⟩, trivial⟩
theorem code_lists_l2_m (n : Nat) : CutMeets Try.prog (.loop (codeAt [1, 0, 1, 0, 0] (bodyOf Try.f50))) 20 (code_lists_l2_k n) :=
 loop_ok code_lists_l2_h code_lists_l2_F (E := code_lists_e) (l := fun n => []) mixed (fun _ => rfl) code_lists_ok (by kernel_rfl) (fun _ => by kernel_rfl) (fun n => trivial) (fun _ _ => rfl) (fun n x y => by kernel_rfl) n
theorem code_lists_m (n : Nat) : Meets Try.prog 50 (code_lists_c n) :=
 con_meets (l := [(Code.loop (codeAt [1, 0, 1, 0, 0] (bodyOf Try.f50)), code_lists_l2_k n)]) mixed Try.func50 (by kernel_rfl) (code_lists_ok n) (by kernel_rfl) (by kernel_rfl) (by kernel_rfl) ⟨code_lists_l2_m n, trivial⟩ (fun x => by kernel_rfl)
/-! 27 lockstep/code.mayBlock -/
noncomputable def code_mayBlock_l2 : Nat → L_api_Block → (List L_api_Phi) → Int → Int → Option (Sum L_api_Block (Bool × L_api_Block))
 | 0, _, _, _, _ => none
 | n + 1, t1, t8, t9, t10 =>
  if (decide (t10 < t9) = true) then
   if ((0 ≤ t10) ∧ (t10 < (t8.length : Int))) then
    (code_in n ([(t8.getD t10.toNat (0, 0, [], [], ())).1, ((t8.getD t10.toNat (0, 0, [], [], ())).2).1])).bind fun r0 =>
     if ((!r0) = false) then
      (code_lists n ([(((t8.getD t10.toNat (0, 0, [], [], ())).2).2).1, ((((t8.getD t10.toNat (0, 0, [], [], ())).2).2).2).1])).bind fun r1 =>
       if ((!r1) = true) then
        some (.inr (false, t1))
       else (code_mayBlock_l2 n t1 t8 t9 (IntKind.wrap .i64 (t10 + 1)))
     else some (.inr (false, t1))
   else none
  else some (.inl t1)
noncomputable def code_mayBlock_l8 : Nat → L_api_Block → (List L_api_Op) → Int → Int → Option (Sum L_api_Block (Bool × L_api_Block))
 | 0, _, _, _, _ => none
 | n + 1, t1, t32, t33, t34 =>
  if (decide (t34 < t33) = true) then
   if ((0 ≤ t34) ∧ (t34 < (t32.length : Int))) then
    (code_in n ([(t32.getD t34.toNat (0, 0, 0, 0, [], 0, ())).1, ((t32.getD t34.toNat (0, 0, 0, 0, [], 0, ())).2).1, (((t32.getD t34.toNat (0, 0, 0, 0, [], 0, ())).2).2).1, ((((t32.getD t34.toNat (0, 0, 0, 0, [], 0, ())).2).2).2).1])).bind fun r0 =>
     if ((!r0) = false) then
      (code_lists n ([(((((t32.getD t34.toNat (0, 0, 0, 0, [], 0, ())).2).2).2).2).1])).bind fun r1 =>
       if ((!r1) = true) then
        some (.inr (false, t1))
       else (code_mayBlock_l8 n t1 t32 t33 (IntKind.wrap .i64 (t34 + 1)))
     else some (.inr (false, t1))
   else none
  else some (.inl t1)
noncomputable def code_mayBlock (n : Nat) (t0 : L_api_Block) : Option Bool :=
 (code_mayBlock_l2 n t0 t0.1 (t0.1.length : Int) 0).bind fun r0 =>
  match r0 with
   | .inl r1 =>
    (code_mayBlock_l8 n r1 r1.2.1 (r1.2.1.length : Int) 0).bind fun r2 =>
     match r2 with
      | .inl r3 =>
       (code_in n ([r3.2.2.1.1, r3.2.2.1.2.1])).bind fun r4 =>
        if (r4 = true) then
         (code_lists n [r3.2.2.1.2.2.1]).bind fun r5 =>
          some r5
        else some false
      | .inr r3 =>
       some r3.1
   | .inr r1 =>
    some r1.1
noncomputable def code_mayBlock_l2_h : Sh := ⟨[(1, (.box (.val Y_api_Block))), (8, (.val (.list Y_api_Phi))), (9, (.val (.int .i64)))], [(10, (.val (.int .i64)))], [2, 4, 10, 11, 12, 13, 14, 15, 16, 17, 18, 19, 20, 21, 22, 23, 24, 25, 26, 27, 28, 29, 30], [⟨.exit 0, []⟩, ⟨.ret, [(2, (.val .bool))]⟩]⟩
noncomputable def code_mayBlock_l2_F (n : Nat) : code_mayBlock_l2_h.Fn := fun x y => code_mayBlock_l2 n x.1 x.2.1 x.2.2.1 y.1
noncomputable def code_mayBlock_l2_k (n : Nat) : Cut := code_mayBlock_l2_h.cut (code_mayBlock_l2_F n)
noncomputable def code_mayBlock_l8_h : Sh := ⟨[(1, (.box (.val Y_api_Block))), (32, (.val (.list Y_api_Op))), (33, (.val (.int .i64)))], [(34, (.val (.int .i64)))], [2, 6, 34, 35, 36, 37, 38, 39, 40, 41, 42, 43, 44, 45, 46, 47, 48, 49, 50, 51, 52, 53, 54, 55, 56], [⟨.exit 2, []⟩, ⟨.ret, [(2, (.val .bool))]⟩]⟩
noncomputable def code_mayBlock_l8_F (n : Nat) : code_mayBlock_l8_h.Fn := fun x y => code_mayBlock_l8 n x.1 x.2.1 x.2.2.1 y.1
noncomputable def code_mayBlock_l8_k (n : Nat) : Cut := code_mayBlock_l8_h.cut (code_mayBlock_l8_F n)
noncomputable def code_mayBlock_e (n : Nat) : Env := mkEnv T_ A_ N_ [(24, code_in_c n), (50, code_lists_c n)] [((0, 2, 6), code_mayBlock_l2_k n), ((0, 8, 12), code_mayBlock_l8_k n)] 72
noncomputable def code_mayBlock_c (n : Nat) : Con := mkCon [(.val Y_api_Block)] [(.val .bool)] (fun x => code_mayBlock n x.1)
theorem code_mayBlock_ok (n : Nat) : EnvOK Try.prog (code_mayBlock_e n) := mkEnv_ok tabs ⟨⟨code_in_m n, fok24⟩, ⟨code_lists_m n, fok50⟩, trivial⟩
theorem code_mayBlock_l2_m (n : Nat) : CutMeets Try.prog (.loop (codeAt [1, 0, 1, 0, 0] (bodyOf Try.f27))) 72 (code_mayBlock_l2_k n) :=
 loop_ok code_mayBlock_l2_h code_mayBlock_l2_F (E := code_mayBlock_e) (l := fun n => []) mixed (fun _ => rfl) code_mayBlock_ok (by kernel_rfl) (fun _ => by kernel_rfl) (fun n => trivial) (fun _ _ => rfl) (fun n x y => by kernel_rfl) n
theorem code_mayBlock_l8_m (n : Nat) : CutMeets Try.prog (.loop (codeAt [1, 1, 0, 1, 0, 0] (bodyOf Try.f27))) 72 (code_mayBlock_l8_k n) :=
 loop_ok code_mayBlock_l8_h code_mayBlock_l8_F (E := code_mayBlock_e) (l := fun n => []) mixed (fun _ => rfl) code_mayBlock_ok (by kernel_rfl) (fun _ => by kernel_rfl) (fun n => trivial) (fun _ _ => rfl) (fun n x y => by kernel_rfl) n
theorem code_mayBlock_m (n : Nat) : Meets Try.prog 27 (code_mayBlock_c n) :=
 con_meets (l := [(Code.loop (codeAt [1, 0, 1, 0, 0] (bodyOf Try.f27)), code_mayBlock_l2_k n), (Code.loop (codeAt [1, 1, 0, 1, 0, 0] (bodyOf Try.f27)), code_mayBlock_l8_k n)]) mixed Try.func27 (by kernel_rfl) (code_mayBlock_ok n) (by kernel_rfl) (by kernel_rfl) (by kernel_rfl) ⟨code_mayBlock_l2_m n, code_mayBlock_l8_m n, trivial⟩ (fun x => by kernel_rfl)
/-! 26 lockstep/code.May$1 -/
noncomputable def code_May_1 (n : Nat) (t0 : L_api_Block) : Option Bool :=
 (code_mayBlock n t0).bind fun r0 =>
  some (!r0)
noncomputable def code_May_1_e (n : Nat) : Env := mkEnv T_ A_ N_ [(27, code_mayBlock_c n)] [] 6
noncomputable def code_May_1_c (n : Nat) : Con := mkCon [(.val Y_api_Block)] [(.val .bool)] (fun x => code_May_1 n x.1)
theorem code_May_1_ok (n : Nat) : EnvOK Try.prog (code_May_1_e n) := mkEnv_ok tabs ⟨⟨code_mayBlock_m n, fok27⟩, trivial⟩
theorem code_May_1_m (n : Nat) : Meets Try.prog 26 (code_May_1_c n) :=
 con_meets (l := []) mixed Try.func26 (by kernel_rfl) (code_May_1_ok n) (by kernel_rfl) (by kernel_rfl) (by kernel_rfl) trivial (fun x => by kernel_rfl)
/-! 49 slices.IndexFunc[[]lockstep/api.Block,lockstep/api.Block] -/
noncomputable def slices_IndexFunc_api_Block_api_Block_code_May_1_l2 : Nat → (List L_api_Block) → Unit → Int → Int → Option (Sum Unit Int)
 | 0, _, _, _, _ => none
 | n + 1, t0, t1, t7, t8 =>
  if (decide (t8 < t7) = true) then
   if ((0 ≤ t8) ∧ (t8 < (t0.length : Int))) then
    (code_May_1 n (t0.getD t8.toNat ([], [], (0, 0, [], ()), ()))).bind fun r0 =>
     if (r0 = true) then
      some (.inr t8)
     else (slices_IndexFunc_api_Block_api_Block_code_May_1_l2 n t0 () t7 (IntKind.wrap .i64 (t8 + 1)))
   else none
  else some (.inl ())
noncomputable def slices_IndexFunc_api_Block_api_Block_code_May_1 (n : Nat) (t0 : (List L_api_Block)) (t1 : Unit) : Option Int :=
 (slices_IndexFunc_api_Block_api_Block_code_May_1_l2 n t0 () (t0.length : Int) 0).bind fun r0 =>
  match r0 with
   | .inl r1 =>
    some (-1)
   | .inr r1 =>
    some r1
noncomputable def slices_IndexFunc_api_Block_api_Block_code_May_1_l2_h : Sh := ⟨[(0, (.val (.list Y_api_Block))), (1, (.func 26 0 .unit)), (7, (.val (.int .i64)))], [(8, (.val (.int .i64)))], [4, 5, 8, 9, 10, 11, 12, 13, 14, 15, 16, 17, 18], [⟨.exit 0, []⟩, ⟨.ret, [(4, (.val (.int .i64)))]⟩]⟩
noncomputable def slices_IndexFunc_api_Block_api_Block_code_May_1_l2_F (n : Nat) : slices_IndexFunc_api_Block_api_Block_code_May_1_l2_h.Fn := fun x y => slices_IndexFunc_api_Block_api_Block_code_May_1_l2 n x.1 x.2.1 x.2.2.1 y.1
noncomputable def slices_IndexFunc_api_Block_api_Block_code_May_1_l2_k (n : Nat) : Cut := slices_IndexFunc_api_Block_api_Block_code_May_1_l2_h.cut (slices_IndexFunc_api_Block_api_Block_code_May_1_l2_F n)
noncomputable def slices_IndexFunc_api_Block_api_Block_code_May_1_e (n : Nat) : Env := mkEnv T_ A_ N_ [(26, code_May_1_c n)] [((0, 2, 6), slices_IndexFunc_api_Block_api_Block_code_May_1_l2_k n)] 19
noncomputable def slices_IndexFunc_api_Block_api_Block_code_May_1_c (n : Nat) : Con := mkCon [(.val (.list Y_api_Block)), (.func 26 0 .unit)] [(.val (.int .i64))] (fun x => slices_IndexFunc_api_Block_api_Block_code_May_1 n x.1 x.2.1)
theorem slices_IndexFunc_api_Block_api_Block_code_May_1_ok (n : Nat) : EnvOK Try.prog (slices_IndexFunc_api_Block_api_Block_code_May_1_e n) := mkEnv_ok tabs ⟨⟨code_May_1_m n, fok26⟩, trivial⟩
theorem slices_IndexFunc_api_Block_api_Block_code_May_1_l2_m (n : Nat) : CutMeets Try.prog (.loop (codeAt [1, 0, 1, 0, 0] (bodyOf Try.f49))) 19 (slices_IndexFunc_api_Block_api_Block_code_May_1_l2_k n) :=
 loop_ok slices_IndexFunc_api_Block_api_Block_code_May_1_l2_h slices_IndexFunc_api_Block_api_Block_code_May_1_l2_F (E := slices_IndexFunc_api_Block_api_Block_code_May_1_e) (l := fun n => []) mixed (fun _ => rfl) slices_IndexFunc_api_Block_api_Block_code_May_1_ok (by kernel_rfl) (fun _ => by kernel_rfl) (fun n => trivial) (fun _ _ => rfl) (fun n x y => by kernel_rfl) n
theorem slices_IndexFunc_api_Block_api_Block_code_May_1_m (n : Nat) : Meets Try.prog 49 (slices_IndexFunc_api_Block_api_Block_code_May_1_c n) :=
 con_meets (l := [(Code.loop (codeAt [1, 0, 1, 0, 0] (bodyOf Try.f49)), slices_IndexFunc_api_Block_api_Block_code_May_1_l2_k n)]) mixed Try.func49 (by kernel_rfl) (slices_IndexFunc_api_Block_api_Block_code_May_1_ok n) (by kernel_rfl) (by kernel_rfl) (by kernel_rfl) ⟨slices_IndexFunc_api_Block_api_Block_code_May_1_l2_m n, trivial⟩ (fun x => by kernel_rfl)
/-! 25 slices.ContainsFunc[[]lockstep/api.Block,lockstep/api.Block] -/
noncomputable def slices_ContainsFunc_api_Block_api_Block_code_May_1 (n : Nat) (t0 : (List L_api_Block)) (t1 : Unit) : Option Bool :=
 (slices_IndexFunc_api_Block_api_Block_code_May_1 n t0 ()).bind fun r0 =>
  some (decide (r0 ≥ 0))
noncomputable def slices_ContainsFunc_api_Block_api_Block_code_May_1_e (n : Nat) : Env := mkEnv T_ A_ N_ [(26, code_May_1_c n), (49, slices_IndexFunc_api_Block_api_Block_code_May_1_c n)] [] 9
noncomputable def slices_ContainsFunc_api_Block_api_Block_code_May_1_c (n : Nat) : Con := mkCon [(.val (.list Y_api_Block)), (.func 26 0 .unit)] [(.val .bool)] (fun x => slices_ContainsFunc_api_Block_api_Block_code_May_1 n x.1 x.2.1)
theorem slices_ContainsFunc_api_Block_api_Block_code_May_1_ok (n : Nat) : EnvOK Try.prog (slices_ContainsFunc_api_Block_api_Block_code_May_1_e n) := mkEnv_ok tabs ⟨⟨code_May_1_m n, fok26⟩, ⟨slices_IndexFunc_api_Block_api_Block_code_May_1_m n, fok49⟩, trivial⟩
theorem slices_ContainsFunc_api_Block_api_Block_code_May_1_m (n : Nat) : Meets Try.prog 25 (slices_ContainsFunc_api_Block_api_Block_code_May_1_c n) :=
 con_meets (l := []) mixed Try.func25 (by kernel_rfl) (slices_ContainsFunc_api_Block_api_Block_code_May_1_ok n) (by kernel_rfl) (by kernel_rfl) (by kernel_rfl) trivial (fun x => by kernel_rfl)
/-! 11 lockstep/code.May -/
noncomputable def code_May (n : Nat) (t0 : L_api_Func) : Option Bool :=
 if (decide ((t0.2.2.1.length : Int) < 1) = false) then
  if (decide ((t0.2.2.1.length : Int) > 64) = false) then
   if (decide ((t0.1.length : Int) > 16) = false) then
    (code_Size n t0).bind fun r0 =>
     if (decide (r0 > 512) = false) then
      (code_in n [t0.2.1]).bind fun r1 =>
       if ((!r1) = false) then
        (code_in n t0.1).bind fun r2 =>
         if ((!r2) = true) then
          some false
         else (slices_ContainsFunc_api_Block_api_Block_code_May_1 n t0.2.2.1 ()).bind fun r3 =>
          some (!r3)
       else some false
     else some false
   else some false
  else some false
 else some false
noncomputable def code_May_e (n : Nat) : Env := mkEnv T_ A_ N_ [(14, code_Size_c n), (24, code_in_c n), (26, code_May_1_c n), (25, slices_ContainsFunc_api_Block_api_Block_code_May_1_c n)] [] 41
noncomputable def code_May_c (n : Nat) : Con := mkCon [(.val Y_api_Func)] [(.val .bool)] (fun x => code_May n x.1)
theorem code_May_ok (n : Nat) : EnvOK Try.prog (code_May_e n) := mkEnv_ok tabs ⟨⟨code_Size_m n, fok14⟩, ⟨code_in_m n, fok24⟩, ⟨code_May_1_m n, fok26⟩, ⟨slices_ContainsFunc_api_Block_api_Block_code_May_1_m n, fok25⟩, trivial⟩
theorem code_May_m (n : Nat) : Meets Try.prog 11 (code_May_c n) :=
 con_meets (l := []) mixed Try.func11 (by kernel_rfl) (code_May_ok n) (by kernel_rfl) (by kernel_rfl) (by kernel_rfl) trivial (fun x => by kernel_rfl)
/-! 23 lockstep/num.Put -/
noncomputable def num_Put_l2 : Nat → Int → (List Int) → Option (Int × (List Int))
 | 0, _, _ => none
 | n + 1, t0, t3 =>
  if (decide (t0 ≥ 128) = true) then
   if ((t3 ++ [(IntKind.wrap .u8 ((BitVec.toNat ((BitVec.ofInt 8 (IntKind.wrap .u8 t0)) ||| (BitVec.ofInt 8 128))) : Int))]).length ≤ Ev.most) then
    (num_Put_l2 n (Int.fdiv t0 128) (t3 ++ [(IntKind.wrap .u8 ((BitVec.toNat ((BitVec.ofInt 8 (IntKind.wrap .u8 t0)) ||| (BitVec.ofInt 8 128))) : Int))]))
   else none
  else some (t0, t3)
noncomputable def num_Put (n : Nat) (t0 : Int) : Option (List Int) :=
 (num_Put_l2 n t0 []).bind fun r0 =>
  if ((r0.2 ++ [(IntKind.wrap .u8 r0.1)]).length ≤ Ev.most) then
   some (r0.2 ++ [(IntKind.wrap .u8 r0.1)])
  else none
noncomputable def num_Put_l2_h : Sh := ⟨[], [(0, (.val (.int .u64))), (3, (.own (.int .u8)))], [0, 3, 4, 5, 6, 7, 8, 9, 10, 11, 12, 13], [⟨.exit 0, [(0, (.val (.int .u64))), (3, (.own (.int .u8)))]⟩]⟩
noncomputable def num_Put_l2_F (n : Nat) : num_Put_l2_h.Fn := fun x y => num_Put_l2 n y.1 y.2.1
noncomputable def num_Put_l2_k (n : Nat) : Cut := num_Put_l2_h.cut (num_Put_l2_F n)
noncomputable def num_Put_e (n : Nat) : Env := mkEnv T_ A_ N_ [] [((0, 2, 4), num_Put_l2_k n)] 19
noncomputable def num_Put_c (n : Nat) : Con := mkCon [(.val (.int .u64))] [(.own (.int .u8))] (fun x => num_Put n x.1)
theorem num_Put_ok (n : Nat) : EnvOK Try.prog (num_Put_e n) := mkEnv_ok tabs trivial
theorem num_Put_l2_m (n : Nat) : CutMeets Try.prog (.loop (codeAt [1, 1, 0, 0, 0] (bodyOf Try.f23))) 19 (num_Put_l2_k n) :=
 loop_ok num_Put_l2_h num_Put_l2_F (E := num_Put_e) (l := fun n => []) mixed (fun _ => rfl) num_Put_ok (by kernel_rfl) (fun _ => by kernel_rfl) (fun n => trivial) (fun _ _ => rfl) (fun n x y => by kernel_rfl) n
theorem num_Put_m (n : Nat) : Meets Try.prog 23 (num_Put_c n) :=
 con_meets (l := [(Code.loop (codeAt [1, 1, 0, 0, 0] (bodyOf Try.f23)), num_Put_l2_k n)]) mixed Try.func23 (by kernel_rfl) (num_Put_ok n) (by kernel_rfl) (by kernel_rfl) (by kernel_rfl) ⟨num_Put_l2_m n, trivial⟩ (fun x => by kernel_rfl)
/-! 20 lockstep/num.Row -/
noncomputable def num_Row_l3 : Nat → (List Int) → Int → (List Int) → Int → Option (Sum (List Int) (List Int))
 | 0, _, _, _, _ => none
 | n + 1, t10, t11, t3, t12 =>
  if (decide (t12 < t11) = true) then
   if ((0 ≤ t12) ∧ (t12 < (t10.length : Int))) then
    if (decide ((t10.getD t12.toNat 0) < 0) = true) then
     some (.inr [])
    else (num_Put n (IntKind.wrap .u64 (t10.getD t12.toNat 0))).bind fun r0 =>
     if ((t3 ++ r0).length ≤ Ev.most) then
      (num_Row_l3 n t10 t11 (t3 ++ r0) (IntKind.wrap .i64 (t12 + 1)))
     else none
   else none
  else some (.inl t3)
noncomputable def num_Row (n : Nat) (t0 : (List Int)) : Option (List Int) :=
 (num_Put n (IntKind.wrap .u64 (t0.length : Int))).bind fun r0 =>
  (num_Row_l3 n t0 (t0.length : Int) r0 0).bind fun r1 =>
   match r1 with
    | .inl r2 =>
     some r2
    | .inr r2 =>
     some r2
noncomputable def num_Row_l3_h : Sh := ⟨[(10, (.val (.list (.int .i64)))), (11, (.val (.int .i64)))], [(3, (.own (.int .u8))), (12, (.val (.int .i64)))], [2, 3, 5, 12, 13, 14, 15, 16, 17, 18, 19, 20, 21, 22, 23], [⟨.exit 0, [(3, (.own (.int .u8)))]⟩, ⟨.ret, [(2, (.own (.int .u8)))]⟩]⟩
noncomputable def num_Row_l3_F (n : Nat) : num_Row_l3_h.Fn := fun x y => num_Row_l3 n x.1 x.2.1 y.1 y.2.1
noncomputable def num_Row_l3_k (n : Nat) : Cut := num_Row_l3_h.cut (num_Row_l3_F n)
noncomputable def num_Row_e (n : Nat) : Env := mkEnv T_ A_ N_ [(23, num_Put_c n)] [((0, 3, 8), num_Row_l3_k n)] 25
noncomputable def num_Row_c (n : Nat) : Con := mkCon [(.val (.list (.int .i64)))] [(.own (.int .u8))] (fun x => num_Row n x.1)
theorem num_Row_ok (n : Nat) : EnvOK Try.prog (num_Row_e n) := mkEnv_ok tabs ⟨⟨num_Put_m n, fok23⟩, trivial⟩
theorem num_Row_l3_m (n : Nat) : CutMeets Try.prog (.loop (codeAt [1, 1, 0, 1, 0, 0] (bodyOf Try.f20))) 25 (num_Row_l3_k n) :=
 loop_ok num_Row_l3_h num_Row_l3_F (E := num_Row_e) (l := fun n => []) mixed (fun _ => rfl) num_Row_ok (by kernel_rfl) (fun _ => by kernel_rfl) (fun n => trivial) (fun _ _ => rfl) (fun n x y => by kernel_rfl) n
theorem num_Row_m (n : Nat) : Meets Try.prog 20 (num_Row_c n) :=
 con_meets (l := [(Code.loop (codeAt [1, 1, 0, 1, 0, 0] (bodyOf Try.f20)), num_Row_l3_k n)]) mixed Try.func20 (by kernel_rfl) (num_Row_ok n) (by kernel_rfl) (by kernel_rfl) (by kernel_rfl) ⟨num_Row_l3_m n, trivial⟩ (fun x => by kernel_rfl)
/-! 21 lockstep/code.row -/
noncomputable def code_row_l3 : Nat → (List Int) → Int → (List Int) → Int → Option (List Int)
 | 0, _, _, _, _ => none
 | n + 1, t6, t7, t3, t8 =>
  if (decide (t8 < t7) = true) then
   if ((0 ≤ t8) ∧ (t8 < (t6.length : Int))) then
    (num_Put n (IntKind.wrap .u64 (t6.getD t8.toNat 0))).bind fun r0 =>
     if ((t3 ++ r0).length ≤ Ev.most) then
      (code_row_l3 n t6 t7 (t3 ++ r0) (IntKind.wrap .i64 (t8 + 1)))
     else none
   else none
  else some t3
noncomputable def code_row (n : Nat) (t0 : (List Int)) : Option (List Int) :=
 (code_row_l3 n t0 (t0.length : Int) [] 0).bind fun r0 =>
  some r0
noncomputable def code_row_l3_h : Sh := ⟨[(6, (.val (.list (.int .i64)))), (7, (.val (.int .i64)))], [(3, (.own (.int .u8))), (8, (.val (.int .i64)))], [3, 5, 8, 9, 10, 11, 12, 13, 14, 15, 16, 17], [⟨.exit 0, [(3, (.own (.int .u8)))]⟩]⟩
noncomputable def code_row_l3_F (n : Nat) : code_row_l3_h.Fn := fun x y => code_row_l3 n x.1 x.2.1 y.1 y.2.1
noncomputable def code_row_l3_k (n : Nat) : Cut := code_row_l3_h.cut (code_row_l3_F n)
noncomputable def code_row_e (n : Nat) : Env := mkEnv T_ A_ N_ [(23, num_Put_c n)] [((0, 3, 6), code_row_l3_k n)] 19
noncomputable def code_row_c (n : Nat) : Con := mkCon [(.val (.list (.int .i64)))] [(.val (.list (.int .u8)))] (fun x => code_row n x.1)
theorem code_row_ok (n : Nat) : EnvOK Try.prog (code_row_e n) := mkEnv_ok tabs ⟨⟨num_Put_m n, fok23⟩, trivial⟩
theorem code_row_l3_m (n : Nat) : CutMeets Try.prog (.loop (codeAt [1, 1, 0, 1, 0, 0] (bodyOf Try.f21))) 19 (code_row_l3_k n) :=
 loop_ok code_row_l3_h code_row_l3_F (E := code_row_e) (l := fun n => []) mixed (fun _ => rfl) code_row_ok (by kernel_rfl) (fun _ => by kernel_rfl) (fun n => trivial) (fun _ _ => rfl) (fun n x y => by kernel_rfl) n
theorem code_row_m (n : Nat) : Meets Try.prog 21 (code_row_c n) :=
 con_meets (l := [(Code.loop (codeAt [1, 1, 0, 1, 0, 0] (bodyOf Try.f21)), code_row_l3_k n)]) mixed Try.func21 (by kernel_rfl) (code_row_ok n) (by kernel_rfl) (by kernel_rfl) (by kernel_rfl) ⟨code_row_l3_m n, trivial⟩ (fun x => by kernel_rfl)
/-! 46 slices.Grow[[]byte,byte] -/
noncomputable def slices_Grow_byte_byte_nil (n : Nat) (t0 : Unit) (t1 : Int) : Option (List Int) :=
 if (decide (t1 < 0) = true) then
  none
 else if (decide ((IntKind.wrap .i64 (t1 - 0)) > 0) = true) then
  if ((0 ≤ (IntKind.wrap .i64 (t1 - 0))) ∧ ((IntKind.wrap .i64 (t1 - 0)) ≤ 1099511627776)) then
   some ((List.replicate ((IntKind.wrap .i64 (t1 - 0)).toNat) 0).take 0)
  else none
 else some []
noncomputable def slices_Grow_byte_byte_nil_e (n : Nat) : Env := mkEnv T_ A_ N_ [] [] 27
noncomputable def slices_Grow_byte_byte_nil_c (n : Nat) : Con := mkCon [.nil, (.val (.int .i64))] [(.own (.int .u8))] (fun x => slices_Grow_byte_byte_nil n x.1 x.2.1)
theorem slices_Grow_byte_byte_nil_ok (n : Nat) : EnvOK Try.prog (slices_Grow_byte_byte_nil_e n) := mkEnv_ok tabs trivial
theorem slices_Grow_byte_byte_nil_m (n : Nat) : Meets Try.prog 46 (slices_Grow_byte_byte_nil_c n) :=
 con_meets (l := []) mixed Try.func46 (by kernel_rfl) (slices_Grow_byte_byte_nil_ok n) (by kernel_rfl) (by kernel_rfl) (by kernel_rfl) trivial (fun x => by kernel_rfl)
/-! 22 slices.Concat[[]byte,byte] -/
noncomputable def slices_Concat_byte_byte_l3 : Nat → (List (List Int)) → (List (List Int)) → Int → Int → Int → Option Int
 | 0, _, _, _, _, _ => none
 | n + 1, t0, t9, t10, t3, t11 =>
  if (decide (t11 < t10) = true) then
   if ((0 ≤ t11) ∧ (t11 < (t9.length : Int))) then
    if (decide ((IntKind.wrap .i64 (t3 + ((t9.getD t11.toNat []).length : Int))) < 0) = true) then
     none
    else (slices_Concat_byte_byte_l3 n t0 t9 t10 (IntKind.wrap .i64 (t3 + ((t9.getD t11.toNat []).length : Int))) (IntKind.wrap .i64 (t11 + 1)))
   else none
  else some t3
noncomputable def slices_Concat_byte_byte_l11 : Nat → (List (List Int)) → Int → (List Int) → Int → Option (List Int)
 | 0, _, _, _, _ => none
 | n + 1, t25, t26, t6, t27 =>
  if (decide (t27 < t26) = true) then
   if ((0 ≤ t27) ∧ (t27 < (t25.length : Int))) then
    if ((t6 ++ (t25.getD t27.toNat [])).length ≤ Ev.most) then
     (slices_Concat_byte_byte_l11 n t25 t26 (t6 ++ (t25.getD t27.toNat [])) (IntKind.wrap .i64 (t27 + 1)))
    else none
   else none
  else some t6
noncomputable def slices_Concat_byte_byte (n : Nat) (t0 : (List (List Int))) : Option (List Int) :=
 (slices_Concat_byte_byte_l3 n t0 t0 (t0.length : Int) 0 0).bind fun r0 =>
  (slices_Grow_byte_byte_nil n () r0).bind fun r1 =>
   (slices_Concat_byte_byte_l11 n t0 (t0.length : Int) r1 0).bind fun r2 =>
    some r2
noncomputable def slices_Concat_byte_byte_l3_h : Sh := ⟨[(0, (.val (.list (.list (.int .u8))))), (9, (.val (.list (.list (.int .u8))))), (10, (.val (.int .i64)))], [(3, (.val (.int .i64))), (11, (.val (.int .i64)))], [3, 5, 11, 12, 13, 14, 15, 16, 17, 18, 19, 20, 21, 22], [⟨.exit 0, [(3, (.val (.int .i64)))]⟩]⟩
noncomputable def slices_Concat_byte_byte_l3_F (n : Nat) : slices_Concat_byte_byte_l3_h.Fn := fun x y => slices_Concat_byte_byte_l3 n x.1 x.2.1 x.2.2.1 y.1 y.2.1
noncomputable def slices_Concat_byte_byte_l3_k (n : Nat) : Cut := slices_Concat_byte_byte_l3_h.cut (slices_Concat_byte_byte_l3_F n)
noncomputable def slices_Concat_byte_byte_l11_h : Sh := ⟨[(25, (.val (.list (.list (.int .u8))))), (26, (.val (.int .i64)))], [(6, (.own (.int .u8))), (27, (.val (.int .i64)))], [6, 8, 27, 28, 29, 30, 31, 32, 33, 34], [⟨.exit 2, [(6, (.own (.int .u8)))]⟩]⟩
noncomputable def slices_Concat_byte_byte_l11_F (n : Nat) : slices_Concat_byte_byte_l11_h.Fn := fun x y => slices_Concat_byte_byte_l11 n x.1 x.2.1 y.1 y.2.1
noncomputable def slices_Concat_byte_byte_l11_k (n : Nat) : Cut := slices_Concat_byte_byte_l11_h.cut (slices_Concat_byte_byte_l11_F n)
noncomputable def slices_Concat_byte_byte_e (n : Nat) : Env := mkEnv T_ A_ N_ [(46, slices_Grow_byte_byte_nil_c n)] [((0, 3, 8), slices_Concat_byte_byte_l3_k n), ((0, 11, 14), slices_Concat_byte_byte_l11_k n)] 36
noncomputable def slices_Concat_byte_byte_c (n : Nat) : Con := mkCon [(.val (.list (.list (.int .u8))))] [(.own (.int .u8))] (fun x => slices_Concat_byte_byte n x.1)
theorem slices_Concat_byte_byte_ok (n : Nat) : EnvOK Try.prog (slices_Concat_byte_byte_e n) := mkEnv_ok tabs ⟨⟨slices_Grow_byte_byte_nil_m n, fok46⟩, trivial⟩
theorem slices_Concat_byte_byte_l3_m (n : Nat) : CutMeets Try.prog (.loop (codeAt [1, 1, 0, 1, 0, 0] (bodyOf Try.f22))) 36 (slices_Concat_byte_byte_l3_k n) :=
 loop_ok slices_Concat_byte_byte_l3_h slices_Concat_byte_byte_l3_F (E := slices_Concat_byte_byte_e) (l := fun n => []) mixed (fun _ => rfl) slices_Concat_byte_byte_ok (by kernel_rfl) (fun _ => by kernel_rfl) (fun n => trivial) (fun _ _ => rfl) (fun n x y => by kernel_rfl) n
theorem slices_Concat_byte_byte_l11_m (n : Nat) : CutMeets Try.prog (.loop (codeAt [1, 1, 1, 1, 0, 1, 0, 0] (bodyOf Try.f22))) 36 (slices_Concat_byte_byte_l11_k n) :=
 loop_ok slices_Concat_byte_byte_l11_h slices_Concat_byte_byte_l11_F (E := slices_Concat_byte_byte_e) (l := fun n => []) mixed (fun _ => rfl) slices_Concat_byte_byte_ok (by kernel_rfl) (fun _ => by kernel_rfl) (fun n => trivial) (fun _ _ => rfl) (fun n x y => by kernel_rfl) n
theorem slices_Concat_byte_byte_m (n : Nat) : Meets Try.prog 22 (slices_Concat_byte_byte_c n) :=
 con_meets (l := [(Code.loop (codeAt [1, 1, 0, 1, 0, 0] (bodyOf Try.f22)), slices_Concat_byte_byte_l3_k n), (Code.loop (codeAt [1, 1, 1, 1, 0, 1, 0, 0] (bodyOf Try.f22)), slices_Concat_byte_byte_l11_k n)]) mixed Try.func22 (by kernel_rfl) (slices_Concat_byte_byte_ok n) (by kernel_rfl) (by kernel_rfl) (by kernel_rfl) ⟨slices_Concat_byte_byte_l3_m n, slices_Concat_byte_byte_l11_m n, trivial⟩ (fun x => by kernel_rfl)
/-! 10 lockstep/code.Encode -/
noncomputable def code_Encode_l9 : Nat → L_api_Block → (List L_api_Block) → Int → Int → (List L_api_Phi) → Int → (List Int) → Int → Option ((List Int) × L_api_Block)
 | 0, _, _, _, _, _, _, _, _ => none
 | n + 1, t5, t25, t26, t27, t39, t40, t3, t41 =>
  if (decide (t41 < t40) = true) then
   if ((0 ≤ t41) ∧ (t41 < (t39.length : Int))) then
    (code_row n ([(t39.getD t41.toNat (0, 0, [], [], ())).1, ((t39.getD t41.toNat (0, 0, [], [], ())).2).1])).bind fun r0 =>
     (num_Row n ((((t39.getD t41.toNat (0, 0, [], [], ())).2).2).1)).bind fun r1 =>
      (num_Row n (((((t39.getD t41.toNat (0, 0, [], [], ())).2).2).2).1)).bind fun r2 =>
       (slices_Concat_byte_byte n ([t3, r0, r1, r2])).bind fun r3 =>
        (code_Encode_l9 n t5 t25 t26 t27 t39 t40 r3 (IntKind.wrap .i64 (t41 + 1)))
   else none
  else some (t3, t5)
noncomputable def code_Encode_l15 : Nat → L_api_Block → (List L_api_Block) → Int → Int → (List L_api_Op) → Int → (List Int) → Int → Option ((List Int) × L_api_Block)
 | 0, _, _, _, _, _, _, _, _ => none
 | n + 1, t5, t25, t26, t27, t69, t70, t3, t71 =>
  if (decide (t71 < t70) = true) then
   if ((0 ≤ t71) ∧ (t71 < (t69.length : Int))) then
    (code_row n ([(t69.getD t71.toNat (0, 0, 0, 0, [], 0, ())).1, ((t69.getD t71.toNat (0, 0, 0, 0, [], 0, ())).2).1, (((t69.getD t71.toNat (0, 0, 0, 0, [], 0, ())).2).2).1, ((((t69.getD t71.toNat (0, 0, 0, 0, [], 0, ())).2).2).2).1])).bind fun r0 =>
     (num_Row n ((((((t69.getD t71.toNat (0, 0, 0, 0, [], 0, ())).2).2).2).2).1)).bind fun r1 =>
      (num_Put n (((((((t69.getD t71.toNat (0, 0, 0, 0, [], 0, ())).2).2).2).2).2).1)).bind fun r2 =>
       (slices_Concat_byte_byte n ([t3, r0, r1, r2])).bind fun r3 =>
        (code_Encode_l15 n t5 t25 t26 t27 t69 t70 r3 (IntKind.wrap .i64 (t71 + 1)))
   else none
  else some (t3, t5)
noncomputable def code_Encode_l5 : Nat → (List L_api_Block) → Int → (List Int) → Int → Option (List Int)
 | 0, _, _, _, _ => none
 | n + 1, t25, t26, t3, t27 =>
  if (decide (t27 < t26) = true) then
   if ((0 ≤ t27) ∧ (t27 < (t25.length : Int))) then
    (code_row n ([(((t25.getD t27.toNat ([], [], (0, 0, [], ()), ())).1).length : Int)])).bind fun r0 =>
     if ((t3 ++ r0).length ≤ Ev.most) then
      (code_Encode_l9 n (t25.getD t27.toNat ([], [], (0, 0, [], ()), ())) t25 t26 t27 ((t25.getD t27.toNat ([], [], (0, 0, [], ()), ())).1) (((t25.getD t27.toNat ([], [], (0, 0, [], ()), ())).1).length : Int) (t3 ++ r0) 0).bind fun r1 =>
       (code_row n ([(r1.2.2.1.length : Int)])).bind fun r2 =>
        if ((r1.1 ++ r2).length ≤ Ev.most) then
         (code_Encode_l15 n r1.2 t25 t26 t27 r1.2.2.1 (r1.2.2.1.length : Int) (r1.1 ++ r2) 0).bind fun r3 =>
          (code_row n ([r3.2.2.2.1.1, r3.2.2.2.1.2.1])).bind fun r4 =>
           (num_Row n r3.2.2.2.1.2.2.1).bind fun r5 =>
            (slices_Concat_byte_byte n ([r3.1, r4, r5])).bind fun r6 =>
             (code_Encode_l5 n t25 t26 r6 (IntKind.wrap .i64 (t27 + 1)))
        else none
     else none
   else none
  else some t3
noncomputable def code_Encode (n : Nat) (t0 : L_api_Func) : Option (List Int) :=
 (code_May n t0).bind fun r0 =>
  if ((!r0) = true) then
   some []
  else (num_Row n t0.1).bind fun r1 =>
   (code_row n ([t0.2.1, (t0.2.2.1.length : Int)])).bind fun r2 =>
    if ((r1 ++ r2).length ≤ Ev.most) then
     (code_Encode_l5 n t0.2.2.1 (t0.2.2.1.length : Int) (r1 ++ r2) 0).bind fun r3 =>
      some r3
    else none
noncomputable def code_Encode_l9_h : Sh := ⟨[(5, (.box (.val Y_api_Block))), (25, (.val (.list Y_api_Block))), (26, (.val (.int .i64))), (27, (.val (.int .i64))), (39, (.val (.list Y_api_Phi))), (40, (.val (.int .i64)))], [(3, (.own (.int .u8))), (41, (.val (.int .i64)))], [3, 7, 41, 42, 43, 44, 45, 46, 47, 48, 49, 50, 51, 52, 53, 54, 55, 56, 57, 58, 59, 60], [⟨.exit 2, [(3, (.own (.int .u8)))]⟩]⟩
noncomputable def code_Encode_l9_F (n : Nat) : code_Encode_l9_h.Fn := fun x y => code_Encode_l9 n x.1 x.2.1 x.2.2.1 x.2.2.2.1 x.2.2.2.2.1 x.2.2.2.2.2.1 y.1 y.2.1
noncomputable def code_Encode_l9_k (n : Nat) : Cut := code_Encode_l9_h.cut (code_Encode_l9_F n)
noncomputable def code_Encode_l15_h : Sh := ⟨[(5, (.box (.val Y_api_Block))), (25, (.val (.list Y_api_Block))), (26, (.val (.int .i64))), (27, (.val (.int .i64))), (69, (.val (.list Y_api_Op))), (70, (.val (.int .i64)))], [(3, (.own (.int .u8))), (71, (.val (.int .i64)))], [3, 9, 71, 72, 73, 74, 75, 76, 77, 78, 79, 80, 81, 82, 83, 84, 85, 86, 87, 88, 89, 90, 91, 92, 93, 94], [⟨.exit 4, [(3, (.own (.int .u8)))]⟩]⟩
noncomputable def code_Encode_l15_F (n : Nat) : code_Encode_l15_h.Fn := fun x y => code_Encode_l15 n x.1 x.2.1 x.2.2.1 x.2.2.2.1 x.2.2.2.2.1 x.2.2.2.2.2.1 y.1 y.2.1
noncomputable def code_Encode_l15_k (n : Nat) : Cut := code_Encode_l15_h.cut (code_Encode_l15_F n)
noncomputable def code_Encode_l5_h : Sh := ⟨[(25, (.val (.list Y_api_Block))), (26, (.val (.int .i64)))], [(3, (.own (.int .u8))), (27, (.val (.int .i64)))], [3, 5, 7, 9, 27, 28, 29, 30, 31, 32, 33, 34, 35, 36, 37, 38, 39, 40, 41, 42, 43, 44, 45, 46, 47, 48, 49, 50, 51, 52, 53, 54, 55, 56, 57, 58, 59, 60, 61, 62, 63, 64, 65, 66, 67, 68, 69, 70, 71, 72, 73, 74, 75, 76, 77, 78, 79, 80, 81, 82, 83, 84, 85, 86, 87, 88, 89, 90, 91, 92, 93, 94, 95, 96, 97, 98, 99, 100, 101, 102, 103, 104, 105, 106, 107, 108, 109, 110], [⟨.exit 0, [(3, (.own (.int .u8)))]⟩]⟩
noncomputable def code_Encode_l5_F (n : Nat) : code_Encode_l5_h.Fn := fun x y => code_Encode_l5 n x.1 x.2.1 y.1 y.2.1
noncomputable def code_Encode_l5_k (n : Nat) : Cut := code_Encode_l5_h.cut (code_Encode_l5_F n)
noncomputable def code_Encode_e (n : Nat) : Env := mkEnv T_ A_ N_ [(11, code_May_c n), (23, num_Put_c n), (20, num_Row_c n), (21, code_row_c n), (22, slices_Concat_byte_byte_c n)] [((0, 9, 12), code_Encode_l9_k n), ((0, 15, 18), code_Encode_l15_k n), ((0, 5, 20), code_Encode_l5_k n)] 112
noncomputable def code_Encode_c (n : Nat) : Con := mkCon [(.val Y_api_Func)] [(.val (.list (.int .u8)))] (fun x => code_Encode n x.1)
theorem code_Encode_ok (n : Nat) : EnvOK Try.prog (code_Encode_e n) := mkEnv_ok tabs ⟨⟨code_May_m n, fok11⟩, ⟨num_Put_m n, fok23⟩, ⟨num_Row_m n, fok20⟩, ⟨code_row_m n, fok21⟩, ⟨slices_Concat_byte_byte_m n, fok22⟩, trivial⟩
theorem code_Encode_l9_m (n : Nat) : CutMeets Try.prog (.loop (codeAt [1, 1, 1, 0, 1, 0, 0, 1, 1, 0, 0, 1, 1, 0, 1, 0, 0] (bodyOf Try.f10))) 112 (code_Encode_l9_k n) :=
 loop_ok code_Encode_l9_h code_Encode_l9_F (E := code_Encode_e) (l := fun n => []) mixed (fun _ => rfl) code_Encode_ok (by kernel_rfl) (fun _ => by kernel_rfl) (fun n => trivial) (fun _ _ => rfl) (fun n x y => by kernel_rfl) n
theorem code_Encode_l15_m (n : Nat) : CutMeets Try.prog (.loop (codeAt [1, 1, 1, 0, 1, 0, 0, 1, 1, 0, 0, 1, 1, 1, 1, 0, 1, 0, 0] (bodyOf Try.f10))) 112 (code_Encode_l15_k n) :=
 loop_ok code_Encode_l15_h code_Encode_l15_F (E := code_Encode_e) (l := fun n => []) mixed (fun _ => rfl) code_Encode_ok (by kernel_rfl) (fun _ => by kernel_rfl) (fun n => trivial) (fun _ _ => rfl) (fun n x y => by kernel_rfl) n
theorem code_Encode_l5_m (n : Nat) : CutMeets Try.prog (.loop (codeAt [1, 1, 1, 0, 1, 0, 0] (bodyOf Try.f10))) 112 (code_Encode_l5_k n) :=
 loop_ok code_Encode_l5_h code_Encode_l5_F (E := code_Encode_e) (l := fun n => [(Code.loop (codeAt [1, 1, 1, 0, 1, 0, 0, 1, 1, 0, 0, 1, 1, 0, 1, 0, 0] (bodyOf Try.f10)), code_Encode_l9_k n), (Code.loop (codeAt [1, 1, 1, 0, 1, 0, 0, 1, 1, 0, 0, 1, 1, 1, 1, 0, 1, 0, 0] (bodyOf Try.f10)), code_Encode_l15_k n)]) mixed (fun _ => rfl) code_Encode_ok (by kernel_rfl) (fun _ => by kernel_rfl) (fun n => ⟨code_Encode_l9_m n, code_Encode_l15_m n, trivial⟩) (fun _ _ => rfl) (fun n x y => by kernel_rfl) n
theorem code_Encode_m (n : Nat) : Meets Try.prog 10 (code_Encode_c n) :=
 con_meets (l := [(Code.loop (codeAt [1, 1, 1, 0, 1, 0, 0] (bodyOf Try.f10)), code_Encode_l5_k n)]) mixed Try.func10 (by kernel_rfl) (code_Encode_ok n) (by kernel_rfl) (by kernel_rfl) (by kernel_rfl) ⟨code_Encode_l5_m n, trivial⟩ (fun x => by kernel_rfl)
/-! 13 lockstep/lockstepref02.Same -/
noncomputable def lockstepref02_Same_l4 : Nat → (List Int) → (List Int) → Int → Option (Sum Unit Bool)
 | 0, _, _, _ => none
 | n + 1, t0, t1, t5 =>
  if (decide (t5 < (t0.length : Int)) = true) then
   if ((0 ≤ t5) ∧ (t5 < (t0.length : Int))) then
    if ((0 ≤ t5) ∧ (t5 < (t1.length : Int))) then
     if (((t0.getD t5.toNat 0) != (t1.getD t5.toNat 0)) = true) then
      some (.inr false)
     else (lockstepref02_Same_l4 n t0 t1 (IntKind.wrap .i64 (t5 + 1)))
    else none
   else none
  else some (.inl ())
noncomputable def lockstepref02_Same (n : Nat) (t0 : (List Int)) (t1 : (List Int)) : Option Bool :=
 if (((t0.length : Int) != (t1.length : Int)) = true) then
  some false
 else (lockstepref02_Same_l4 n t0 t1 0).bind fun r0 =>
  match r0 with
   | .inl r1 =>
    some true
   | .inr r1 =>
    some r1
noncomputable def lockstepref02_Same_l4_h : Sh := ⟨[(0, (.val (.list (.int .u8)))), (1, (.val (.list (.int .u8))))], [(5, (.val (.int .i64)))], [4, 5, 11, 12, 13, 14, 15, 16, 17, 18, 19, 20, 21, 22, 23, 24, 25], [⟨.exit 0, []⟩, ⟨.ret, [(4, (.val .bool))]⟩]⟩
noncomputable def lockstepref02_Same_l4_F (n : Nat) : lockstepref02_Same_l4_h.Fn := fun x y => lockstepref02_Same_l4 n x.1 x.2.1 y.1
noncomputable def lockstepref02_Same_l4_k (n : Nat) : Cut := lockstepref02_Same_l4_h.cut (lockstepref02_Same_l4_F n)
noncomputable def lockstepref02_Same_e (n : Nat) : Env := mkEnv T_ A_ N_ [] [((0, 4, 5), lockstepref02_Same_l4_k n)] 26
noncomputable def lockstepref02_Same_c (n : Nat) : Con := mkCon [(.val (.list (.int .u8))), (.val (.list (.int .u8)))] [(.val .bool)] (fun x => lockstepref02_Same n x.1 x.2.1)
theorem lockstepref02_Same_ok (n : Nat) : EnvOK Try.prog (lockstepref02_Same_e n) := mkEnv_ok tabs trivial
theorem lockstepref02_Same_l4_m (n : Nat) : CutMeets Try.prog (.loop (codeAt [1, 1, 0, 1, 0, 0] (bodyOf Try.f13))) 26 (lockstepref02_Same_l4_k n) :=
 loop_ok lockstepref02_Same_l4_h lockstepref02_Same_l4_F (E := lockstepref02_Same_e) (l := fun n => []) mixed (fun _ => rfl) lockstepref02_Same_ok (by kernel_rfl) (fun _ => by kernel_rfl) (fun n => trivial) (fun _ _ => rfl) (fun n x y => by kernel_rfl) n
theorem lockstepref02_Same_m (n : Nat) : Meets Try.prog 13 (lockstepref02_Same_c n) :=
 con_meets (l := [(Code.loop (codeAt [1, 1, 0, 1, 0, 0] (bodyOf Try.f13)), lockstepref02_Same_l4_k n)]) mixed Try.func13 (by kernel_rfl) (lockstepref02_Same_ok n) (by kernel_rfl) (by kernel_rfl) (by kernel_rfl) ⟨lockstepref02_Same_l4_m n, trivial⟩ (fun x => by kernel_rfl)
/-! 8 lockstep/locksteplaw04.awake -/
noncomputable def locksteplaw04_awake (n : Nat) : Option Bool :=
 (code_Decode n ([0, 8, 1, 0, 1, 0, 8, 1, 1, 0, 5, 0, 1, 0])).bind fun r0 =>
  (code_Decode n (([0, 8, 1, 0, 1, 0, 8, 1, 1, 0, 5, 0, 1, 0]).take 5)).bind fun r1 =>
   (code_Decode n (([] ++ [0, 8, 1, 0, 1, 0, 8, 1, 1, 0, 5, 0, 1, 0]) ++ [0])).bind fun r2 =>
    if ((r0.2 == 0) = true) then
     if ((r0.1.2.1 == 8) = true) then
      if (((r0.1.2.2.1.length : Int) == 1) = true) then
       if (((0 : Int) ≤ 0) ∧ (0 < (r0.1.2.2.1.length : Int))) then
        if ((((((r0.1.2.2.1.getD 0 ([], [], (0, 0, [], ()), ())).2).1).length : Int) == 1) = true) then
         if (((0 : Int) ≤ 0) ∧ (0 < (r0.1.2.2.1.length : Int))) then
          if (((0 : Int) ≤ 0) ∧ (0 < ((((r0.1.2.2.1.getD 0 ([], [], (0, 0, [], ()), ())).2).1).length : Int))) then
           if (((((((((((r0.1.2.2.1.getD 0 ([], [], (0, 0, [], ()), ())).2).1).getD 0 (0, 0, 0, 0, [], 0, ())).2).2).2).2).2).1 == 5) = true) then
            if (((0 : Int) ≤ 0) ∧ (0 < (r0.1.2.2.1.length : Int))) then
             if (((((((r0.1.2.2.1.getD 0 ([], [], (0, 0, [], ()), ())).2).2).1).2).1 == 1) = true) then
              (code_Encode n r0.1).bind fun r3 =>
               (lockstepref02_Same n r3 ([0, 8, 1, 0, 1, 0, 8, 1, 1, 0, 5, 0, 1, 0])).bind fun r4 =>
                if (r4 = true) then
                 if ((r1.2 == 2) = true) then
                  if ((r2.2 == 3) = true) then
                   (code_Size n r0.1).bind fun r5 =>
                    some (r5 == 2)
                  else some false
                 else some false
                else some false
             else some false
            else none
           else some false
          else none
         else none
        else some false
       else none
      else some false
     else some false
    else some false
noncomputable def locksteplaw04_awake_e (n : Nat) : Env := mkEnv T_ A_ N_ [(14, code_Size_c n), (12, code_Decode_c n), (10, code_Encode_c n), (13, lockstepref02_Same_c n)] [] 90
noncomputable def locksteplaw04_awake_c (n : Nat) : Con := mkCon [] [(.val .bool)] (fun x => locksteplaw04_awake n)
theorem locksteplaw04_awake_ok (n : Nat) : EnvOK Try.prog (locksteplaw04_awake_e n) := mkEnv_ok tabs ⟨⟨code_Size_m n, fok14⟩, ⟨code_Decode_m n, fok12⟩, ⟨code_Encode_m n, fok10⟩, ⟨lockstepref02_Same_m n, fok13⟩, trivial⟩
theorem locksteplaw04_awake_m (n : Nat) : Meets Try.prog 8 (locksteplaw04_awake_c n) :=
 con_meets (l := []) mixed Try.func8 (by kernel_rfl) (locksteplaw04_awake_ok n) (by kernel_rfl) (by kernel_rfl) (by kernel_rfl) trivial (fun x => by kernel_rfl)
/-! 9 lockstep/lockstepref04.Small -/
noncomputable def lockstepref04_Small_l7 : Nat → L_api_Func → Int → Int → Int → Option (Int × L_api_Func)
 | 0, _, _, _, _ => none
 | n + 1, t1, t4, t3, t5 =>
  if ((0 ≤ t4) ∧ (t4 < (t1.2.2.1.length : Int))) then
   if (decide (t5 < (((t1.2.2.1.getD t4.toNat ([], [], (0, 0, [], ()), ())).1).length : Int)) = true) then
    if (decide (t3 ≤ 20000) = true) then
     if ((0 ≤ t4) ∧ (t4 < (t1.2.2.1.length : Int))) then
      if ((0 ≤ t5) ∧ (t5 < (((t1.2.2.1.getD t4.toNat ([], [], (0, 0, [], ()), ())).1).length : Int))) then
       if ((0 ≤ t4) ∧ (t4 < (t1.2.2.1.length : Int))) then
        if ((0 ≤ t5) ∧ (t5 < (((t1.2.2.1.getD t4.toNat ([], [], (0, 0, [], ()), ())).1).length : Int))) then
         (lockstepref04_Small_l7 n t1 t4 (IntKind.wrap .i64 ((IntKind.wrap .i64 ((IntKind.wrap .i64 (t3 + 1)) + (((((((t1.2.2.1.getD t4.toNat ([], [], (0, 0, [], ()), ())).1).getD t5.toNat (0, 0, [], [], ())).2).2).1).length : Int))) + ((((((((t1.2.2.1.getD t4.toNat ([], [], (0, 0, [], ()), ())).1).getD t5.toNat (0, 0, [], [], ())).2).2).2).1).length : Int))) (IntKind.wrap .i64 (t5 + 1)))
        else none
       else none
      else none
     else none
    else some (t3, t1)
   else some (t3, t1)
  else none
noncomputable def lockstepref04_Small_l11 : Nat → L_api_Func → Int → Int → Int → Option (Int × L_api_Func)
 | 0, _, _, _, _ => none
 | n + 1, t1, t4, t3, t6 =>
  if ((0 ≤ t4) ∧ (t4 < (t1.2.2.1.length : Int))) then
   if (decide (t6 < ((((t1.2.2.1.getD t4.toNat ([], [], (0, 0, [], ()), ())).2).1).length : Int)) = true) then
    if (decide (t3 ≤ 20000) = true) then
     if ((0 ≤ t4) ∧ (t4 < (t1.2.2.1.length : Int))) then
      if ((0 ≤ t6) ∧ (t6 < ((((t1.2.2.1.getD t4.toNat ([], [], (0, 0, [], ()), ())).2).1).length : Int))) then
       (lockstepref04_Small_l11 n t1 t4 (IntKind.wrap .i64 ((IntKind.wrap .i64 (t3 + 1)) + ((((((((((t1.2.2.1.getD t4.toNat ([], [], (0, 0, [], ()), ())).2).1).getD t6.toNat (0, 0, 0, 0, [], 0, ())).2).2).2).2).1).length : Int))) (IntKind.wrap .i64 (t6 + 1)))
      else none
     else none
    else some (t3, t1)
   else some (t3, t1)
  else none
noncomputable def lockstepref04_Small_l3 : Nat → L_api_Func → Int → Int → Option (Int × L_api_Func)
 | 0, _, _, _ => none
 | n + 1, t1, t3, t4 =>
  if (decide (t4 < (t1.2.2.1.length : Int)) = true) then
   if (decide (t3 ≤ 20000) = true) then
    if ((0 ≤ t4) ∧ (t4 < (t1.2.2.1.length : Int))) then
     (lockstepref04_Small_l7 n t1 t4 (IntKind.wrap .i64 ((IntKind.wrap .i64 (t3 + 1)) + ((((((((t1.2.2.1.getD t4.toNat ([], [], (0, 0, [], ()), ())).2).2).1).2).2).1).length : Int))) 0).bind fun r0 =>
      (lockstepref04_Small_l11 n r0.2 t4 r0.1 0).bind fun r1 =>
       (lockstepref04_Small_l3 n r1.2 r1.1 (IntKind.wrap .i64 (t4 + 1)))
    else none
   else some (t3, t1)
  else some (t3, t1)
noncomputable def lockstepref04_Small (n : Nat) (t0 : L_api_Func) : Option Bool :=
 (lockstepref04_Small_l3 n t0 (t0.1.length : Int) 0).bind fun r0 =>
  some (decide (r0.1 ≤ 20000))
noncomputable def lockstepref04_Small_l7_h : Sh := ⟨[(1, (.box (.val Y_api_Func))), (4, (.val (.int .i64)))], [(3, (.val (.int .i64))), (5, (.val (.int .i64)))], [3, 5, 32, 33, 34, 35, 36, 37, 38, 39, 40, 41, 42, 43, 44, 45, 46, 47, 48, 49, 50, 51, 52, 53, 54, 55, 56, 57, 58, 59, 60, 61, 62, 63, 64, 65, 66, 67, 68, 69, 70, 71, 72], [⟨.exit 2, [(3, (.val (.int .i64)))]⟩]⟩
noncomputable def lockstepref04_Small_l7_F (n : Nat) : lockstepref04_Small_l7_h.Fn := fun x y => lockstepref04_Small_l7 n x.1 x.2.1 y.1 y.2.1
noncomputable def lockstepref04_Small_l7_k (n : Nat) : Cut := lockstepref04_Small_l7_h.cut (lockstepref04_Small_l7_F n)
noncomputable def lockstepref04_Small_l11_h : Sh := ⟨[(1, (.box (.val Y_api_Func))), (4, (.val (.int .i64)))], [(3, (.val (.int .i64))), (6, (.val (.int .i64)))], [3, 6, 73, 74, 75, 76, 77, 78, 79, 80, 81, 82, 83, 84, 85, 86, 87, 88, 89, 90, 91, 92, 93, 94, 95, 96, 97, 98, 99, 100, 101], [⟨.exit 4, [(3, (.val (.int .i64)))]⟩]⟩
noncomputable def lockstepref04_Small_l11_F (n : Nat) : lockstepref04_Small_l11_h.Fn := fun x y => lockstepref04_Small_l11 n x.1 x.2.1 y.1 y.2.1
noncomputable def lockstepref04_Small_l11_k (n : Nat) : Cut := lockstepref04_Small_l11_h.cut (lockstepref04_Small_l11_F n)
noncomputable def lockstepref04_Small_l3_h : Sh := ⟨[(1, (.box (.val Y_api_Func)))], [(3, (.val (.int .i64))), (4, (.val (.int .i64)))], [3, 4, 5, 6, 10, 11, 12, 13, 14, 15, 16, 17, 18, 19, 20, 21, 22, 23, 24, 25, 26, 27, 28, 29, 30, 31, 32, 33, 34, 35, 36, 37, 38, 39, 40, 41, 42, 43, 44, 45, 46, 47, 48, 49, 50, 51, 52, 53, 54, 55, 56, 57, 58, 59, 60, 61, 62, 63, 64, 65, 66, 67, 68, 69, 70, 71, 72, 73, 74, 75, 76, 77, 78, 79, 80, 81, 82, 83, 84, 85, 86, 87, 88, 89, 90, 91, 92, 93, 94, 95, 96, 97, 98, 99, 100, 101], [⟨.exit 0, [(3, (.val (.int .i64)))]⟩]⟩
noncomputable def lockstepref04_Small_l3_F (n : Nat) : lockstepref04_Small_l3_h.Fn := fun x y => lockstepref04_Small_l3 n x.1 y.1 y.2.1
noncomputable def lockstepref04_Small_l3_k (n : Nat) : Cut := lockstepref04_Small_l3_h.cut (lockstepref04_Small_l3_F n)
noncomputable def lockstepref04_Small_e (n : Nat) : Env := mkEnv T_ A_ N_ [] [((0, 7, 8), lockstepref04_Small_l7_k n), ((0, 11, 12), lockstepref04_Small_l11_k n), ((0, 3, 4), lockstepref04_Small_l3_k n)] 104
noncomputable def lockstepref04_Small_c (n : Nat) : Con := mkCon [(.val Y_api_Func)] [(.val .bool)] (fun x => lockstepref04_Small n x.1)
theorem lockstepref04_Small_ok (n : Nat) : EnvOK Try.prog (lockstepref04_Small_e n) := mkEnv_ok tabs trivial
theorem lockstepref04_Small_l7_m (n : Nat) : CutMeets Try.prog (.loop (codeAt [1, 1, 0, 1, 0, 0, 1, 0, 0, 1, 0, 1, 0, 0] (bodyOf Try.f9))) 104 (lockstepref04_Small_l7_k n) :=
 loop_ok lockstepref04_Small_l7_h lockstepref04_Small_l7_F (E := lockstepref04_Small_e) (l := fun n => []) mixed (fun _ => rfl) lockstepref04_Small_ok (by kernel_rfl) (fun _ => by kernel_rfl) (fun n => trivial) (fun _ _ => rfl) (fun n x y => by kernel_rfl) n
theorem lockstepref04_Small_l11_m (n : Nat) : CutMeets Try.prog (.loop (codeAt [1, 1, 0, 1, 0, 0, 1, 0, 0, 1, 1, 1, 0, 0] (bodyOf Try.f9))) 104 (lockstepref04_Small_l11_k n) :=
 loop_ok lockstepref04_Small_l11_h lockstepref04_Small_l11_F (E := lockstepref04_Small_e) (l := fun n => []) mixed (fun _ => rfl) lockstepref04_Small_ok (by kernel_rfl) (fun _ => by kernel_rfl) (fun n => trivial) (fun _ _ => rfl) (fun n x y => by kernel_rfl) n
theorem lockstepref04_Small_l3_m (n : Nat) : CutMeets Try.prog (.loop (codeAt [1, 1, 0, 1, 0, 0] (bodyOf Try.f9))) 104 (lockstepref04_Small_l3_k n) :=
 loop_ok lockstepref04_Small_l3_h lockstepref04_Small_l3_F (E := lockstepref04_Small_e) (l := fun n => [(Code.loop (codeAt [1, 1, 0, 1, 0, 0, 1, 0, 0, 1, 0, 1, 0, 0] (bodyOf Try.f9)), lockstepref04_Small_l7_k n), (Code.loop (codeAt [1, 1, 0, 1, 0, 0, 1, 0, 0, 1, 1, 1, 0, 0] (bodyOf Try.f9)), lockstepref04_Small_l11_k n)]) mixed (fun _ => rfl) lockstepref04_Small_ok (by kernel_rfl) (fun _ => by kernel_rfl) (fun n => ⟨lockstepref04_Small_l7_m n, lockstepref04_Small_l11_m n, trivial⟩) (fun _ _ => rfl) (fun n x y => by kernel_rfl) n
theorem lockstepref04_Small_m (n : Nat) : Meets Try.prog 9 (lockstepref04_Small_c n) :=
 con_meets (l := [(Code.loop (codeAt [1, 1, 0, 1, 0, 0] (bodyOf Try.f9)), lockstepref04_Small_l3_k n)]) mixed Try.func9 (by kernel_rfl) (lockstepref04_Small_ok n) (by kernel_rfl) (by kernel_rfl) (by kernel_rfl) ⟨lockstepref04_Small_l3_m n, trivial⟩ (fun x => by kernel_rfl)
/-! 3 lockstep/locksteplaw04.CodeCuts -/
noncomputable def locksteplaw04_CodeCuts (n : Nat) (t0 : L_api_Func) (t1 : Int) (t2 : Int) : Option Bool :=
 (locksteplaw04_awake n).bind fun r0 =>
  if ((!r0) = true) then
   some false
  else (lockstepref04_Small n t0).bind fun r1 =>
   if ((!r1) = true) then
    some true
   else (code_Encode n t0).bind fun r2 =>
    if (((r2.length : Int) == 0) = true) then
     (code_May n t0).bind fun r3 =>
      some (!r3)
    else if ((r2.length : Int) ≠ 0) then
     if ((0 ≤ (Int.tmod (IntKind.wrap .i64 t1) (r2.length : Int))) ∧ ((Int.tmod (IntKind.wrap .i64 t1) (r2.length : Int)) ≤ (r2.length : Int))) then
      (code_Decode n (r2.take ((Int.tmod (IntKind.wrap .i64 t1) (r2.length : Int)).toNat))).bind fun r3 =>
       if (([] ++ r2).length ≤ Ev.most) then
        if ((([] ++ r2) ++ [t2]).length ≤ Ev.most) then
         (code_Decode n (([] ++ r2) ++ [t2])).bind fun r4 =>
          if ((r3.2 == 2) = true) then
           if ((r4.2 == 3) = true) then
            if (((r3.1.2.2.1.length : Int) == 0) = true) then
             if (((r4.1.2.2.1.length : Int) == 0) = true) then
              (code_Encode n t0).bind fun r5 =>
               (lockstepref02_Same n r5 r2).bind fun r6 =>
                some r6
             else some false
            else some false
           else some false
          else some false
        else none
       else none
     else none
    else none
noncomputable def locksteplaw04_CodeCuts_e (n : Nat) : Env := mkEnv T_ A_ N_ [(12, code_Decode_c n), (11, code_May_c n), (10, code_Encode_c n), (13, lockstepref02_Same_c n), (8, locksteplaw04_awake_c n), (9, lockstepref04_Small_c n)] [] 70
noncomputable def locksteplaw04_CodeCuts_c (n : Nat) : Con := mkCon [(.val Y_api_Func), (.val (.int .u16)), (.val (.int .u8))] [(.val .bool)] (fun x => locksteplaw04_CodeCuts n x.1 x.2.1 x.2.2.1)
theorem locksteplaw04_CodeCuts_ok (n : Nat) : EnvOK Try.prog (locksteplaw04_CodeCuts_e n) := mkEnv_ok tabs ⟨⟨code_Decode_m n, fok12⟩, ⟨code_May_m n, fok11⟩, ⟨code_Encode_m n, fok10⟩, ⟨lockstepref02_Same_m n, fok13⟩, ⟨locksteplaw04_awake_m n, fok8⟩, ⟨lockstepref04_Small_m n, fok9⟩, trivial⟩
theorem locksteplaw04_CodeCuts_m (n : Nat) : Meets Try.prog 3 (locksteplaw04_CodeCuts_c n) :=
 con_meets (l := []) mixed Try.func3 (by kernel_rfl) (locksteplaw04_CodeCuts_ok n) (by kernel_rfl) (by kernel_rfl) (by kernel_rfl) trivial (fun x => by kernel_rfl)
/-! 4 lockstep/locksteplaw04.CodeSizes -/
noncomputable def locksteplaw04_CodeSizes_l11 : Nat → Int → Int → L_api_Func → Int → L_api_Block → Int → Option (L_api_Func × L_api_Block)
 | 0, _, _, _, _, _, _ => none
 | n + 1, t5, t6, t7, t8, t9, t10 =>
  if (decide (t10 < t6) = true) then
   if ((t9.2.1 ++ [(0, 8, 1, 1, [], 0, ())]).length ≤ Ev.most) then
    (locksteplaw04_CodeSizes_l11 n t5 t6 t7 t8 (t9.1, (t9.2.1 ++ [(0, 8, 1, 1, [], 0, ())]), t9.2.2) (IntKind.wrap .i64 (t10 + 1)))
   else none
  else some (t7, t9)
noncomputable def locksteplaw04_CodeSizes_l7 : Nat → Int → Int → L_api_Func → Int → Option L_api_Func
 | 0, _, _, _, _ => none
 | n + 1, t5, t6, t7, t8 =>
  if (decide (t8 < t5) = true) then
   (locksteplaw04_CodeSizes_l11 n t5 t6 t7 t8 ([], [], (0, 0, [], ()), ()) 0).bind fun r0 =>
    if ((r0.1.2.2.1 ++ [r0.2]).length ≤ Ev.most) then
     (locksteplaw04_CodeSizes_l7 n t5 t6 (r0.1.1, r0.1.2.1, (r0.1.2.2.1 ++ [r0.2]), ()) (IntKind.wrap .i64 (t8 + 1)))
    else none
  else some t7
noncomputable def locksteplaw04_CodeSizes (n : Nat) (t0 : Int) (t1 : Int) : Option Bool :=
 (locksteplaw04_awake n).bind fun r0 =>
  if ((!r0) = true) then
   some false
  else (locksteplaw04_CodeSizes_l7 n (IntKind.wrap .i64 (1 + (Int.tmod (IntKind.wrap .i64 t0) 70))) (Int.tmod (IntKind.wrap .i64 t1) 12) ([], 0, [], ()) 0).bind fun r1 =>
   if (decide ((IntKind.wrap .i64 (1 + (Int.tmod (IntKind.wrap .i64 t0) 70))) ≤ 64) = true) then
    (code_Encode n r1).bind fun r2 =>
     (code_Decode n r2).bind fun r3 =>
      (code_Size n r1).bind fun r4 =>
       if ((r4 == (IntKind.wrap .i64 ((IntKind.wrap .i64 (1 + (Int.tmod (IntKind.wrap .i64 t0) 70))) * (IntKind.wrap .i64 ((Int.tmod (IntKind.wrap .i64 t1) 12) + 1))))) = true) then
        (code_May n r1).bind fun r5 =>
         if ((r5 == decide ((IntKind.wrap .i64 ((IntKind.wrap .i64 (1 + (Int.tmod (IntKind.wrap .i64 t0) 70))) * (IntKind.wrap .i64 ((Int.tmod (IntKind.wrap .i64 t1) 12) + 1)))) ≤ 512)) = true) then
          if ((decide ((r2.length : Int) > 0) == decide ((IntKind.wrap .i64 ((IntKind.wrap .i64 (1 + (Int.tmod (IntKind.wrap .i64 t0) 70))) * (IntKind.wrap .i64 ((Int.tmod (IntKind.wrap .i64 t1) 12) + 1)))) ≤ 512)) = true) then
           if (((r3.2 == 0) == decide ((IntKind.wrap .i64 ((IntKind.wrap .i64 (1 + (Int.tmod (IntKind.wrap .i64 t0) 70))) * (IntKind.wrap .i64 ((Int.tmod (IntKind.wrap .i64 t1) 12) + 1)))) ≤ 512)) = true) then
            if ((!decide ((IntKind.wrap .i64 ((IntKind.wrap .i64 (1 + (Int.tmod (IntKind.wrap .i64 t0) 70))) * (IntKind.wrap .i64 ((Int.tmod (IntKind.wrap .i64 t1) 12) + 1)))) ≤ 512)) = false) then
             (code_Size n r3.1).bind fun r6 =>
              some (r6 == (IntKind.wrap .i64 ((IntKind.wrap .i64 (1 + (Int.tmod (IntKind.wrap .i64 t0) 70))) * (IntKind.wrap .i64 ((Int.tmod (IntKind.wrap .i64 t1) 12) + 1)))))
            else some true
           else some false
          else some false
         else some false
       else some false
   else (code_Encode n r1).bind fun r2 =>
    (code_Decode n r2).bind fun r3 =>
     (code_Size n r1).bind fun r4 =>
      if ((r4 == (IntKind.wrap .i64 ((IntKind.wrap .i64 (1 + (Int.tmod (IntKind.wrap .i64 t0) 70))) * (IntKind.wrap .i64 ((Int.tmod (IntKind.wrap .i64 t1) 12) + 1))))) = true) then
       (code_May n r1).bind fun r5 =>
        if ((r5 == false) = true) then
         if ((decide ((r2.length : Int) > 0) == false) = true) then
          if (((r3.2 == 0) == false) = true) then
           some true
          else some false
         else some false
        else some false
      else some false
noncomputable def locksteplaw04_CodeSizes_l11_h : Sh := ⟨[(5, (.val (.int .i64))), (6, (.val (.int .i64))), (7, (.box (.pair (.val (.list (.int .i64))) (.pair (.val (.int .i64)) (.pair (.own Y_api_Block) .unit))))), (8, (.val (.int .i64))), (9, (.box (.pair (.val (.list Y_api_Phi)) (.pair (.own Y_api_Op) (.pair (.val Y_api_End) .unit)))))], [(10, (.val (.int .i64)))], [10, 30, 31, 32, 33, 34, 35, 36, 37, 38, 39, 40], [⟨.exit 2, []⟩]⟩
noncomputable def locksteplaw04_CodeSizes_l11_F (n : Nat) : locksteplaw04_CodeSizes_l11_h.Fn := fun x y => locksteplaw04_CodeSizes_l11 n x.1 x.2.1 x.2.2.1 x.2.2.2.1 x.2.2.2.2.1 y.1
noncomputable def locksteplaw04_CodeSizes_l11_k (n : Nat) : Cut := locksteplaw04_CodeSizes_l11_h.cut (locksteplaw04_CodeSizes_l11_F n)
noncomputable def locksteplaw04_CodeSizes_l7_h : Sh := ⟨[(5, (.val (.int .i64))), (6, (.val (.int .i64))), (7, (.box (.pair (.val (.list (.int .i64))) (.pair (.val (.int .i64)) (.pair (.own Y_api_Block) .unit)))))], [(8, (.val (.int .i64)))], [8, 9, 10, 25, 26, 27, 28, 29, 30, 31, 32, 33, 34, 35, 36, 37, 38, 39, 40, 41, 42, 43, 44, 45, 46], [⟨.exit 0, []⟩]⟩
noncomputable def locksteplaw04_CodeSizes_l7_F (n : Nat) : locksteplaw04_CodeSizes_l7_h.Fn := fun x y => locksteplaw04_CodeSizes_l7 n x.1 x.2.1 x.2.2.1 y.1
noncomputable def locksteplaw04_CodeSizes_l7_k (n : Nat) : Cut := locksteplaw04_CodeSizes_l7_h.cut (locksteplaw04_CodeSizes_l7_F n)
noncomputable def locksteplaw04_CodeSizes_e (n : Nat) : Env := mkEnv T_ A_ N_ [(14, code_Size_c n), (12, code_Decode_c n), (11, code_May_c n), (10, code_Encode_c n), (8, locksteplaw04_awake_c n)] [((0, 11, 12), locksteplaw04_CodeSizes_l11_k n), ((0, 7, 8), locksteplaw04_CodeSizes_l7_k n)] 97
noncomputable def locksteplaw04_CodeSizes_c (n : Nat) : Con := mkCon [(.val (.int .u8)), (.val (.int .u16))] [(.val .bool)] (fun x => locksteplaw04_CodeSizes n x.1 x.2.1)
theorem locksteplaw04_CodeSizes_ok (n : Nat) : EnvOK Try.prog (locksteplaw04_CodeSizes_e n) := mkEnv_ok tabs ⟨⟨code_Size_m n, fok14⟩, ⟨code_Decode_m n, fok12⟩, ⟨code_May_m n, fok11⟩, ⟨code_Encode_m n, fok10⟩, ⟨locksteplaw04_awake_m n, fok8⟩, trivial⟩
theorem locksteplaw04_CodeSizes_l11_m (n : Nat) : CutMeets Try.prog (.loop (codeAt [1, 1, 1, 1, 1, 0, 1, 0, 0, 1, 0, 0, 1, 0, 1, 0, 0] (bodyOf Try.f4))) 97 (locksteplaw04_CodeSizes_l11_k n) :=
 loop_ok locksteplaw04_CodeSizes_l11_h locksteplaw04_CodeSizes_l11_F (E := locksteplaw04_CodeSizes_e) (l := fun n => []) mixed (fun _ => rfl) locksteplaw04_CodeSizes_ok (by kernel_rfl) (fun _ => by kernel_rfl) (fun n => trivial) (fun _ _ => rfl) (fun n x y => by kernel_rfl) n
theorem locksteplaw04_CodeSizes_l7_m (n : Nat) : CutMeets Try.prog (.loop (codeAt [1, 1, 1, 1, 1, 0, 1, 0, 0] (bodyOf Try.f4))) 97 (locksteplaw04_CodeSizes_l7_k n) :=
 loop_ok locksteplaw04_CodeSizes_l7_h locksteplaw04_CodeSizes_l7_F (E := locksteplaw04_CodeSizes_e) (l := fun n => [(Code.loop (codeAt [1, 1, 1, 1, 1, 0, 1, 0, 0, 1, 0, 0, 1, 0, 1, 0, 0] (bodyOf Try.f4)), locksteplaw04_CodeSizes_l11_k n)]) mixed (fun _ => rfl) locksteplaw04_CodeSizes_ok (by kernel_rfl) (fun _ => by kernel_rfl) (fun n => ⟨locksteplaw04_CodeSizes_l11_m n, trivial⟩) (fun _ _ => rfl) (fun n x y => by kernel_rfl) n
theorem locksteplaw04_CodeSizes_m (n : Nat) : Meets Try.prog 4 (locksteplaw04_CodeSizes_c n) :=
 con_meets (l := [(Code.loop (codeAt [1, 1, 1, 1, 1, 0, 1, 0, 0] (bodyOf Try.f4)), locksteplaw04_CodeSizes_l7_k n)]) mixed Try.func4 (by kernel_rfl) (locksteplaw04_CodeSizes_ok n) (by kernel_rfl) (by kernel_rfl) (by kernel_rfl) ⟨locksteplaw04_CodeSizes_l7_m n, trivial⟩ (fun x => by kernel_rfl)
/-! 33 lockstep/lockstepref04.num -/
noncomputable def lockstepref04_num (n : Nat) (t0 : Int) : Option Bool :=
 if (decide (t0 ≥ 0) = true) then
  some (decide (t0 ≤ 2147483647))
 else some false
noncomputable def lockstepref04_num_e (n : Nat) : Env := mkEnv T_ A_ N_ [] [] 9
noncomputable def lockstepref04_num_c (n : Nat) : Con := mkCon [(.val (.int .i64))] [(.val .bool)] (fun x => lockstepref04_num n x.1)
theorem lockstepref04_num_ok (n : Nat) : EnvOK Try.prog (lockstepref04_num_e n) := mkEnv_ok tabs trivial
theorem lockstepref04_num_m (n : Nat) : Meets Try.prog 33 (lockstepref04_num_c n) :=
 con_meets (l := []) mixed Try.func33 (by kernel_rfl) (lockstepref04_num_ok n) (by kernel_rfl) (by kernel_rfl) (by kernel_rfl) trivial (fun x => by kernel_rfl)
/-! 32 lockstep/lockstepref04.list -/
noncomputable def lockstepref04_list_l2 : Nat → (List Int) → Int → Option (Sum Unit Bool)
 | 0, _, _ => none
 | n + 1, t0, t3 =>
  if (decide (t3 < (t0.length : Int)) = true) then
   if ((0 ≤ t3) ∧ (t3 < (t0.length : Int))) then
    (lockstepref04_num n (t0.getD t3.toNat 0)).bind fun r0 =>
     if ((!r0) = true) then
      some (.inr false)
     else (lockstepref04_list_l2 n t0 (IntKind.wrap .i64 (t3 + 1)))
   else none
  else some (.inl ())
noncomputable def lockstepref04_list (n : Nat) (t0 : (List Int)) : Option Bool :=
 (lockstepref04_list_l2 n t0 0).bind fun r0 =>
  match r0 with
   | .inl r1 =>
    some (decide ((t0.length : Int) ≤ 64))
   | .inr r1 =>
    some r1
noncomputable def lockstepref04_list_l2_h : Sh := ⟨[(0, (.val (.list (.int .i64))))], [(3, (.val (.int .i64)))], [2, 3, 4, 5, 6, 7, 8, 9, 10, 11, 12, 13, 14, 15], [⟨.exit 0, []⟩, ⟨.ret, [(2, (.val .bool))]⟩]⟩
noncomputable def lockstepref04_list_l2_F (n : Nat) : lockstepref04_list_l2_h.Fn := fun x y => lockstepref04_list_l2 n x.1 y.1
noncomputable def lockstepref04_list_l2_k (n : Nat) : Cut := lockstepref04_list_l2_h.cut (lockstepref04_list_l2_F n)
noncomputable def lockstepref04_list_e (n : Nat) : Env := mkEnv T_ A_ N_ [(33, lockstepref04_num_c n)] [((0, 2, 3), lockstepref04_list_l2_k n)] 19
noncomputable def lockstepref04_list_c (n : Nat) : Con := mkCon [(.val (.list (.int .i64)))] [(.val .bool)] (fun x => lockstepref04_list n x.1)
theorem lockstepref04_list_ok (n : Nat) : EnvOK Try.prog (lockstepref04_list_e n) := mkEnv_ok tabs ⟨⟨lockstepref04_num_m n, fok33⟩, trivial⟩
theorem lockstepref04_list_l2_m (n : Nat) : CutMeets Try.prog (.loop (codeAt [1, 0, 1, 0, 0] (bodyOf Try.f32))) 19 (lockstepref04_list_l2_k n) :=
 loop_ok lockstepref04_list_l2_h lockstepref04_list_l2_F (E := lockstepref04_list_e) (l := fun n => []) mixed (fun _ => rfl) lockstepref04_list_ok (by kernel_rfl) (fun _ => by kernel_rfl) (fun n => trivial) (fun _ _ => rfl) (fun n x y => by kernel_rfl) n
theorem lockstepref04_list_m (n : Nat) : Meets Try.prog 32 (lockstepref04_list_c n) :=
 con_meets (l := [(Code.loop (codeAt [1, 0, 1, 0, 0] (bodyOf Try.f32)), lockstepref04_list_l2_k n)]) mixed Try.func32 (by kernel_rfl) (lockstepref04_list_ok n) (by kernel_rfl) (by kernel_rfl) (by kernel_rfl) ⟨lockstepref04_list_l2_m n, trivial⟩ (fun x => by kernel_rfl)
/-! 16 lockstep/lockstepref04.Size -/
noncomputable def lockstepref04_Size_l3 : Nat → L_api_Func → Int → Int → Option (Int × L_api_Func)
 | 0, _, _, _ => none
 | n + 1, t1, t3, t4 =>
  if (decide (t4 < (t1.2.2.1.length : Int)) = true) then
   if ((0 ≤ t4) ∧ (t4 < (t1.2.2.1.length : Int))) then
    if ((0 ≤ t4) ∧ (t4 < (t1.2.2.1.length : Int))) then
     (lockstepref04_Size_l3 n t1 (IntKind.wrap .i64 ((IntKind.wrap .i64 ((IntKind.wrap .i64 (t3 + (((t1.2.2.1.getD t4.toNat ([], [], (0, 0, [], ()), ())).1).length : Int))) + ((((t1.2.2.1.getD t4.toNat ([], [], (0, 0, [], ()), ())).2).1).length : Int))) + 1)) (IntKind.wrap .i64 (t4 + 1)))
    else none
   else none
  else some (t3, t1)
noncomputable def lockstepref04_Size (n : Nat) (t0 : L_api_Func) : Option Int :=
 (lockstepref04_Size_l3 n t0 0 0).bind fun r0 =>
  some r0.1
noncomputable def lockstepref04_Size_l3_h : Sh := ⟨[(1, (.box (.val Y_api_Func)))], [(3, (.val (.int .i64))), (4, (.val (.int .i64)))], [3, 4, 5, 6, 7, 8, 9, 10, 11, 12, 13, 14, 15, 16, 17, 18, 19, 20, 21, 22, 23, 24, 25, 26, 27, 28, 29], [⟨.exit 0, [(3, (.val (.int .i64)))]⟩]⟩
noncomputable def lockstepref04_Size_l3_F (n : Nat) : lockstepref04_Size_l3_h.Fn := fun x y => lockstepref04_Size_l3 n x.1 y.1 y.2.1
noncomputable def lockstepref04_Size_l3_k (n : Nat) : Cut := lockstepref04_Size_l3_h.cut (lockstepref04_Size_l3_F n)
noncomputable def lockstepref04_Size_e (n : Nat) : Env := mkEnv T_ A_ N_ [] [((0, 3, 4), lockstepref04_Size_l3_k n)] 31
noncomputable def lockstepref04_Size_c (n : Nat) : Con := mkCon [(.val Y_api_Func)] [(.val (.int .i64))] (fun x => lockstepref04_Size n x.1)
theorem lockstepref04_Size_ok (n : Nat) : EnvOK Try.prog (lockstepref04_Size_e n) := mkEnv_ok tabs trivial
theorem lockstepref04_Size_l3_m (n : Nat) : CutMeets Try.prog (.loop (codeAt [1, 1, 0, 1, 0, 0] (bodyOf Try.f16))) 31 (lockstepref04_Size_l3_k n) :=
 loop_ok lockstepref04_Size_l3_h lockstepref04_Size_l3_F (E := lockstepref04_Size_e) (l := fun n => []) mixed (fun _ => rfl) lockstepref04_Size_ok (by kernel_rfl) (fun _ => by kernel_rfl) (fun n => trivial) (fun _ _ => rfl) (fun n x y => by kernel_rfl) n
theorem lockstepref04_Size_m (n : Nat) : Meets Try.prog 16 (lockstepref04_Size_c n) :=
 con_meets (l := [(Code.loop (codeAt [1, 1, 0, 1, 0, 0] (bodyOf Try.f16)), lockstepref04_Size_l3_k n)]) mixed Try.func16 (by kernel_rfl) (lockstepref04_Size_ok n) (by kernel_rfl) (by kernel_rfl) (by kernel_rfl) ⟨lockstepref04_Size_l3_m n, trivial⟩ (fun x => by kernel_rfl)
/-! 15 lockstep/lockstepref04.May -/
noncomputable def lockstepref04_May_l8 : Nat → L_api_Func → Int → L_api_Block → Int → Option (Sum (L_api_Func × L_api_Block) (Bool × (L_api_Func × L_api_Block)))
 | 0, _, _, _, _ => none
 | n + 1, t1, t3, t4, t5 =>
  if (decide (t5 < (t4.1.length : Int)) = true) then
   if ((0 ≤ t5) ∧ (t5 < (t4.1.length : Int))) then
    (lockstepref04_num n ((t4.1.getD t5.toNat (0, 0, [], [], ())).1)).bind fun r0 =>
     if ((!r0) = false) then
      (lockstepref04_num n (((t4.1.getD t5.toNat (0, 0, [], [], ())).2).1)).bind fun r1 =>
       if ((!r1) = false) then
        (lockstepref04_list n ((((t4.1.getD t5.toNat (0, 0, [], [], ())).2).2).1)).bind fun r2 =>
         if ((!r2) = false) then
          (lockstepref04_list n (((((t4.1.getD t5.toNat (0, 0, [], [], ())).2).2).2).1)).bind fun r3 =>
           if ((!r3) = true) then
            some (.inr (false, t1, t4))
           else (lockstepref04_May_l8 n t1 t3 t4 (IntKind.wrap .i64 (t5 + 1)))
         else some (.inr (false, t1, t4))
       else some (.inr (false, t1, t4))
     else some (.inr (false, t1, t4))
   else none
  else some (.inl (t1, t4))
noncomputable def lockstepref04_May_l14 : Nat → L_api_Func → Int → L_api_Block → Int → Option (Sum (L_api_Func × L_api_Block) (Bool × (L_api_Func × L_api_Block)))
 | 0, _, _, _, _ => none
 | n + 1, t1, t3, t4, t7 =>
  if (decide (t7 < (t4.2.1.length : Int)) = true) then
   if ((0 ≤ t7) ∧ (t7 < (t4.2.1.length : Int))) then
    (lockstepref04_num n ((t4.2.1.getD t7.toNat (0, 0, 0, 0, [], 0, ())).1)).bind fun r0 =>
     if ((!r0) = false) then
      (lockstepref04_num n (((t4.2.1.getD t7.toNat (0, 0, 0, 0, [], 0, ())).2).1)).bind fun r1 =>
       if ((!r1) = false) then
        (lockstepref04_num n ((((t4.2.1.getD t7.toNat (0, 0, 0, 0, [], 0, ())).2).2).1)).bind fun r2 =>
         if ((!r2) = false) then
          (lockstepref04_num n (((((t4.2.1.getD t7.toNat (0, 0, 0, 0, [], 0, ())).2).2).2).1)).bind fun r3 =>
           if ((!r3) = false) then
            (lockstepref04_list n ((((((t4.2.1.getD t7.toNat (0, 0, 0, 0, [], 0, ())).2).2).2).2).1)).bind fun r4 =>
             if ((!r4) = true) then
              some (.inr (false, t1, t4))
             else (lockstepref04_May_l14 n t1 t3 t4 (IntKind.wrap .i64 (t7 + 1)))
           else some (.inr (false, t1, t4))
         else some (.inr (false, t1, t4))
       else some (.inr (false, t1, t4))
     else some (.inr (false, t1, t4))
   else none
  else some (.inl (t1, t4))
noncomputable def lockstepref04_May_l4 : Nat → L_api_Func → Int → Option (Sum L_api_Func (Bool × L_api_Func))
 | 0, _, _ => none
 | n + 1, t1, t3 =>
  if (decide (t3 < (t1.2.2.1.length : Int)) = true) then
   if ((0 ≤ t3) ∧ (t3 < (t1.2.2.1.length : Int))) then
    (lockstepref04_May_l8 n t1 t3 (t1.2.2.1.getD t3.toNat ([], [], (0, 0, [], ()), ())) 0).bind fun r0 =>
     match r0 with
      | .inl r1 =>
       (lockstepref04_May_l14 n r1.1 t3 r1.2 0).bind fun r2 =>
        match r2 with
         | .inl r3 =>
          (lockstepref04_num n r3.2.2.2.1.1).bind fun r4 =>
           if ((!r4) = false) then
            (lockstepref04_num n r3.2.2.2.1.2.1).bind fun r5 =>
             if ((!r5) = false) then
              (lockstepref04_list n r3.2.2.2.1.2.2.1).bind fun r6 =>
               if ((!r6) = true) then
                some (.inr (false, r3.1))
               else (lockstepref04_May_l4 n r3.1 (IntKind.wrap .i64 (t3 + 1)))
             else some (.inr (false, r3.1))
           else some (.inr (false, r3.1))
         | .inr r3 =>
          some (.inr (r3.1, r3.2.1))
      | .inr r1 =>
       some (.inr (r1.1, r1.2.1))
   else none
  else some (.inl t1)
noncomputable def lockstepref04_May (n : Nat) (t0 : L_api_Func) : Option Bool :=
 if (((t0.2.2.1.length : Int) == 0) = false) then
  if (decide ((t0.2.2.1.length : Int) > 64) = false) then
   if (decide ((t0.1.length : Int) > 16) = false) then
    (lockstepref04_list n t0.1).bind fun r0 =>
     if ((!r0) = false) then
      (lockstepref04_num n t0.2.1).bind fun r1 =>
       if ((!r1) = false) then
        (lockstepref04_Size n t0).bind fun r2 =>
         if (decide (r2 > 512) = true) then
          some false
         else (lockstepref04_May_l4 n t0 0).bind fun r3 =>
          match r3 with
           | .inl r4 =>
            some true
           | .inr r4 =>
            some r4.1
       else some false
     else some false
   else some false
  else some false
 else some false
noncomputable def lockstepref04_May_l8_h : Sh := ⟨[(1, (.box (.val Y_api_Func))), (3, (.val (.int .i64))), (4, (.box (.val Y_api_Block)))], [(5, (.val (.int .i64)))], [2, 5, 6, 54, 55, 56, 57, 58, 59, 60, 61, 62, 63, 64, 65, 66, 67, 68, 69, 70, 71, 72, 73, 74, 75, 76, 77, 78, 79, 80, 81, 82, 83, 84, 85, 86, 87], [⟨.exit 2, []⟩, ⟨.ret, [(2, (.val .bool))]⟩]⟩
noncomputable def lockstepref04_May_l8_F (n : Nat) : lockstepref04_May_l8_h.Fn := fun x y => lockstepref04_May_l8 n x.1 x.2.1 x.2.2.1 y.1
noncomputable def lockstepref04_May_l8_k (n : Nat) : Cut := lockstepref04_May_l8_h.cut (lockstepref04_May_l8_F n)
noncomputable def lockstepref04_May_l14_h : Sh := ⟨[(1, (.box (.val Y_api_Func))), (3, (.val (.int .i64))), (4, (.box (.val Y_api_Block)))], [(7, (.val (.int .i64)))], [2, 7, 8, 88, 89, 90, 91, 92, 93, 94, 95, 96, 97, 98, 99, 100, 101, 102, 103, 104, 105, 106, 107, 108, 109, 110, 111, 112, 113, 114, 115, 116, 117, 118, 119, 120, 121, 122, 123, 124, 125, 126, 127], [⟨.exit 4, []⟩, ⟨.ret, [(2, (.val .bool))]⟩]⟩
noncomputable def lockstepref04_May_l14_F (n : Nat) : lockstepref04_May_l14_h.Fn := fun x y => lockstepref04_May_l14 n x.1 x.2.1 x.2.2.1 y.1
noncomputable def lockstepref04_May_l14_k (n : Nat) : Cut := lockstepref04_May_l14_h.cut (lockstepref04_May_l14_F n)
noncomputable def lockstepref04_May_l4_h : Sh := ⟨[(1, (.box (.val Y_api_Func)))], [(3, (.val (.int .i64)))], [2, 3, 4, 5, 6, 7, 8, 42, 43, 44, 45, 46, 47, 48, 49, 50, 51, 52, 53, 54, 55, 56, 57, 58, 59, 60, 61, 62, 63, 64, 65, 66, 67, 68, 69, 70, 71, 72, 73, 74, 75, 76, 77, 78, 79, 80, 81, 82, 83, 84, 85, 86, 87, 88, 89, 90, 91, 92, 93, 94, 95, 96, 97, 98, 99, 100, 101, 102, 103, 104, 105, 106, 107, 108, 109, 110, 111, 112, 113, 114, 115, 116, 117, 118, 119, 120, 121, 122, 123, 124, 125, 126, 127, 128, 129, 130, 131, 132, 133, 134, 135, 136, 137, 138, 139, 140, 141, 142, 143, 144, 145, 146], [⟨.exit 0, []⟩, ⟨.ret, [(2, (.val .bool))]⟩]⟩
noncomputable def lockstepref04_May_l4_F (n : Nat) : lockstepref04_May_l4_h.Fn := fun x y => lockstepref04_May_l4 n x.1 y.1
noncomputable def lockstepref04_May_l4_k (n : Nat) : Cut := lockstepref04_May_l4_h.cut (lockstepref04_May_l4_F n)
noncomputable def lockstepref04_May_e (n : Nat) : Env := mkEnv T_ A_ N_ [(33, lockstepref04_num_c n), (32, lockstepref04_list_c n), (16, lockstepref04_Size_c n)] [((0, 8, 9), lockstepref04_May_l8_k n), ((0, 14, 15), lockstepref04_May_l14_k n), ((0, 4, 5), lockstepref04_May_l4_k n)] 147
noncomputable def lockstepref04_May_c (n : Nat) : Con := mkCon [(.val Y_api_Func)] [(.val .bool)] (fun x => lockstepref04_May n x.1)
theorem lockstepref04_May_ok (n : Nat) : EnvOK Try.prog (lockstepref04_May_e n) := mkEnv_ok tabs ⟨⟨lockstepref04_num_m n, fok33⟩, ⟨lockstepref04_list_m n, fok32⟩, ⟨lockstepref04_Size_m n, fok16⟩, trivial⟩
theorem lockstepref04_May_l8_m (n : Nat) : CutMeets Try.prog (.loop (codeAt [1, 1, 0, 1, 0, 0, 1, 0, 0, 1, 0, 1, 0, 0] (bodyOf Try.f15))) 147 (lockstepref04_May_l8_k n) :=
 loop_ok lockstepref04_May_l8_h lockstepref04_May_l8_F (E := lockstepref04_May_e) (l := fun n => []) mixed (fun _ => rfl) lockstepref04_May_ok (by kernel_rfl) (fun _ => by kernel_rfl) (fun n => trivial) (fun _ _ => rfl) (fun n x y => by kernel_rfl) n
theorem lockstepref04_May_l14_m (n : Nat) : CutMeets Try.prog (.loop (codeAt [1, 1, 0, 1, 0, 0, 1, 0, 0, 1, 1, 0, 1, 0, 0] (bodyOf Try.f15))) 147 (lockstepref04_May_l14_k n) :=
 loop_ok lockstepref04_May_l14_h lockstepref04_May_l14_F (E := lockstepref04_May_e) (l := fun n => []) mixed (fun _ => rfl) lockstepref04_May_ok (by kernel_rfl) (fun _ => by kernel_rfl) (fun n => trivial) (fun _ _ => rfl) (fun n x y => by kernel_rfl) n
theorem lockstepref04_May_l4_m (n : Nat) : CutMeets Try.prog (.loop (codeAt [1, 1, 0, 1, 0, 0] (bodyOf Try.f15))) 147 (lockstepref04_May_l4_k n) :=
 loop_ok lockstepref04_May_l4_h lockstepref04_May_l4_F (E := lockstepref04_May_e) (l := fun n => [(Code.loop (codeAt [1, 1, 0, 1, 0, 0, 1, 0, 0, 1, 0, 1, 0, 0] (bodyOf Try.f15)), lockstepref04_May_l8_k n), (Code.loop (codeAt [1, 1, 0, 1, 0, 0, 1, 0, 0, 1, 1, 0, 1, 0, 0] (bodyOf Try.f15)), lockstepref04_May_l14_k n)]) mixed (fun _ => rfl) lockstepref04_May_ok (by kernel_rfl) (fun _ => by kernel_rfl) (fun n => ⟨lockstepref04_May_l8_m n, lockstepref04_May_l14_m n, trivial⟩) (fun _ _ => rfl) (fun n x y => by kernel_rfl) n
theorem lockstepref04_May_m (n : Nat) : Meets Try.prog 15 (lockstepref04_May_c n) :=
 con_meets (l := [(Code.loop (codeAt [1, 1, 0, 1, 0, 0] (bodyOf Try.f15)), lockstepref04_May_l4_k n)]) mixed Try.func15 (by kernel_rfl) (lockstepref04_May_ok n) (by kernel_rfl) (by kernel_rfl) (by kernel_rfl) ⟨lockstepref04_May_l4_m n, trivial⟩ (fun x => by kernel_rfl)
/-! 36 lockstep/lockstepref02.Put -/
noncomputable def lockstepref02_Put : Nat → Int → Option (List Int)
 | 0, _ => none
 | n + 1, t0 =>
 if (decide (t0 < 128) = true) then
  some ([(IntKind.wrap .u8 t0)])
 else (lockstepref02_Put n (IntKind.wrap .u64 (Int.tdiv t0 128))).bind fun r0 =>
  if (([(IntKind.wrap .u8 (IntKind.wrap .u64 ((Int.tmod t0 128) + 128)))] ++ r0).length ≤ Ev.most) then
   some ([(IntKind.wrap .u8 (IntKind.wrap .u64 ((Int.tmod t0 128) + 128)))] ++ r0)
  else none
noncomputable def lockstepref02_Put_c (n : Nat) : Con := mkCon [(.val (.int .u64))] [(.own (.int .u8))] (fun x => lockstepref02_Put n x.1)
noncomputable def lockstepref02_Put_e (n : Nat) : Env := mkEnv T_ A_ N_ [(36, lockstepref02_Put_c n)] [] 17
theorem lockstepref02_Put_ok (n : Nat) (h_ : Meets Try.prog 36 (lockstepref02_Put_c n)) : EnvOK Try.prog (lockstepref02_Put_e n) := mkEnv_ok tabs ⟨⟨h_, fok36⟩, trivial⟩
theorem lockstepref02_Put_m (n : Nat) : Meets Try.prog 36 (lockstepref02_Put_c n) := meets_rec (c := lockstepref02_Put_c) (con_never fun _ => rfl) (fun n h_ => con_meets (l := []) mixed Try.func36 (by kernel_rfl) (lockstepref02_Put_ok n (h_ n (Nat.le_refl _))) (by kernel_rfl) (by kernel_rfl) (by kernel_rfl) trivial (fun x => by kernel_rfl)) n
/-! 34 lockstep/lockstepref02.Row -/
noncomputable def lockstepref02_Row_l3 : Nat → (List Int) → (List Int) → Int → Option (Sum (List Int) (List Int))
 | 0, _, _, _ => none
 | n + 1, t0, t3, t4 =>
  if (decide (t4 < (t0.length : Int)) = true) then
   if ((0 ≤ t4) ∧ (t4 < (t0.length : Int))) then
    if (decide ((t0.getD t4.toNat 0) < 0) = true) then
     some (.inr [])
    else if ((0 ≤ t4) ∧ (t4 < (t0.length : Int))) then
     (lockstepref02_Put n (IntKind.wrap .u64 (t0.getD t4.toNat 0))).bind fun r0 =>
      if ((t3 ++ r0).length ≤ Ev.most) then
       (lockstepref02_Row_l3 n t0 (t3 ++ r0) (IntKind.wrap .i64 (t4 + 1)))
      else none
    else none
   else none
  else some (.inl t3)
noncomputable def lockstepref02_Row (n : Nat) (t0 : (List Int)) : Option (List Int) :=
 (lockstepref02_Put n (IntKind.wrap .u64 (t0.length : Int))).bind fun r0 =>
  (lockstepref02_Row_l3 n t0 r0 0).bind fun r1 =>
   match r1 with
    | .inl r2 =>
     some r2
    | .inr r2 =>
     some r2
noncomputable def lockstepref02_Row_l3_h : Sh := ⟨[(0, (.val (.list (.int .i64))))], [(3, (.own (.int .u8))), (4, (.val (.int .i64)))], [2, 3, 4, 9, 10, 11, 12, 13, 14, 15, 16, 17, 18, 19, 20, 21, 22, 23, 24, 25, 26, 27], [⟨.exit 0, [(3, (.own (.int .u8)))]⟩, ⟨.ret, [(2, (.own (.int .u8)))]⟩]⟩
noncomputable def lockstepref02_Row_l3_F (n : Nat) : lockstepref02_Row_l3_h.Fn := fun x y => lockstepref02_Row_l3 n x.1 y.1 y.2.1
noncomputable def lockstepref02_Row_l3_k (n : Nat) : Cut := lockstepref02_Row_l3_h.cut (lockstepref02_Row_l3_F n)
noncomputable def lockstepref02_Row_e (n : Nat) : Env := mkEnv T_ A_ N_ [(36, lockstepref02_Put_c n)] [((0, 3, 4), lockstepref02_Row_l3_k n)] 29
noncomputable def lockstepref02_Row_c (n : Nat) : Con := mkCon [(.val (.list (.int .i64)))] [(.own (.int .u8))] (fun x => lockstepref02_Row n x.1)
theorem lockstepref02_Row_ok (n : Nat) : EnvOK Try.prog (lockstepref02_Row_e n) := mkEnv_ok tabs ⟨⟨lockstepref02_Put_m n, fok36⟩, trivial⟩
theorem lockstepref02_Row_l3_m (n : Nat) : CutMeets Try.prog (.loop (codeAt [1, 1, 0, 1, 0, 0] (bodyOf Try.f34))) 29 (lockstepref02_Row_l3_k n) :=
 loop_ok lockstepref02_Row_l3_h lockstepref02_Row_l3_F (E := lockstepref02_Row_e) (l := fun n => []) mixed (fun _ => rfl) lockstepref02_Row_ok (by kernel_rfl) (fun _ => by kernel_rfl) (fun n => trivial) (fun _ _ => rfl) (fun n x y => by kernel_rfl) n
theorem lockstepref02_Row_m (n : Nat) : Meets Try.prog 34 (lockstepref02_Row_c n) :=
 con_meets (l := [(Code.loop (codeAt [1, 1, 0, 1, 0, 0] (bodyOf Try.f34)), lockstepref02_Row_l3_k n)]) mixed Try.func34 (by kernel_rfl) (lockstepref02_Row_ok n) (by kernel_rfl) (by kernel_rfl) (by kernel_rfl) ⟨lockstepref02_Row_l3_m n, trivial⟩ (fun x => by kernel_rfl)
/-! 35 lockstep/lockstepref04.put -/
noncomputable def lockstepref04_put (n : Nat) (t0 : (List Int)) (t1 : Int) : Option (List Int) :=
 (lockstepref02_Put n (IntKind.wrap .u64 t1)).bind fun r0 =>
  if ((t0 ++ r0).length ≤ Ev.most) then
   some (t0 ++ r0)
  else none
noncomputable def lockstepref04_put_e (n : Nat) : Env := mkEnv T_ A_ N_ [(36, lockstepref02_Put_c n)] [] 10
noncomputable def lockstepref04_put_c (n : Nat) : Con := mkCon [(.mv (.int .u8)), (.val (.int .i64))] [(.own (.int .u8))] (fun x => lockstepref04_put n x.1 x.2.1)
theorem lockstepref04_put_ok (n : Nat) : EnvOK Try.prog (lockstepref04_put_e n) := mkEnv_ok tabs ⟨⟨lockstepref02_Put_m n, fok36⟩, trivial⟩
theorem lockstepref04_put_m (n : Nat) : Meets Try.prog 35 (lockstepref04_put_c n) :=
 con_meets (l := []) mixed Try.func35 (by kernel_rfl) (lockstepref04_put_ok n) (by kernel_rfl) (by kernel_rfl) (by kernel_rfl) trivial (fun x => by kernel_rfl)
/-! 17 lockstep/lockstepref04.Encode -/
noncomputable def lockstepref04_Encode_l11 : Nat → L_api_Func → Int → L_api_Block → (List Int) → Int → Option ((List Int) × (L_api_Func × L_api_Block))
 | 0, _, _, _, _, _ => none
 | n + 1, t1, t4, t5, t3, t6 =>
  if (decide (t6 < (t5.1.length : Int)) = true) then
   if ((0 ≤ t6) ∧ (t6 < (t5.1.length : Int))) then
    (lockstepref04_put n t3 ((t5.1.getD t6.toNat (0, 0, [], [], ())).1)).bind fun r0 =>
     if ((0 ≤ t6) ∧ (t6 < (t5.1.length : Int))) then
      (lockstepref04_put n r0 (((t5.1.getD t6.toNat (0, 0, [], [], ())).2).1)).bind fun r1 =>
       if ((0 ≤ t6) ∧ (t6 < (t5.1.length : Int))) then
        (lockstepref02_Row n ((((t5.1.getD t6.toNat (0, 0, [], [], ())).2).2).1)).bind fun r2 =>
         if ((r1 ++ r2).length ≤ Ev.most) then
          if ((0 ≤ t6) ∧ (t6 < (t5.1.length : Int))) then
           (lockstepref02_Row n (((((t5.1.getD t6.toNat (0, 0, [], [], ())).2).2).2).1)).bind fun r3 =>
            if (((r1 ++ r2) ++ r3).length ≤ Ev.most) then
             (lockstepref04_Encode_l11 n t1 t4 t5 ((r1 ++ r2) ++ r3) (IntKind.wrap .i64 (t6 + 1)))
            else none
          else none
         else none
       else none
     else none
   else none
  else some (t3, t1, t5)
noncomputable def lockstepref04_Encode_l17 : Nat → L_api_Func → Int → L_api_Block → (List Int) → Int → Option ((List Int) × (L_api_Func × L_api_Block))
 | 0, _, _, _, _, _ => none
 | n + 1, t1, t4, t5, t3, t7 =>
  if (decide (t7 < (t5.2.1.length : Int)) = true) then
   if ((0 ≤ t7) ∧ (t7 < (t5.2.1.length : Int))) then
    (lockstepref04_put n t3 ((t5.2.1.getD t7.toNat (0, 0, 0, 0, [], 0, ())).1)).bind fun r0 =>
     (lockstepref04_put n r0 (((t5.2.1.getD t7.toNat (0, 0, 0, 0, [], 0, ())).2).1)).bind fun r1 =>
      (lockstepref04_put n r1 ((((t5.2.1.getD t7.toNat (0, 0, 0, 0, [], 0, ())).2).2).1)).bind fun r2 =>
       (lockstepref04_put n r2 (((((t5.2.1.getD t7.toNat (0, 0, 0, 0, [], 0, ())).2).2).2).1)).bind fun r3 =>
        (lockstepref02_Row n ((((((t5.2.1.getD t7.toNat (0, 0, 0, 0, [], 0, ())).2).2).2).2).1)).bind fun r4 =>
         if ((r3 ++ r4).length ≤ Ev.most) then
          (lockstepref02_Put n (((((((t5.2.1.getD t7.toNat (0, 0, 0, 0, [], 0, ())).2).2).2).2).2).1)).bind fun r5 =>
           if (((r3 ++ r4) ++ r5).length ≤ Ev.most) then
            (lockstepref04_Encode_l17 n t1 t4 t5 ((r3 ++ r4) ++ r5) (IntKind.wrap .i64 (t7 + 1)))
           else none
         else none
   else none
  else some (t3, t1, t5)
noncomputable def lockstepref04_Encode_l6 : Nat → L_api_Func → (List Int) → Int → Option ((List Int) × L_api_Func)
 | 0, _, _, _ => none
 | n + 1, t1, t3, t4 =>
  if (decide (t4 < (t1.2.2.1.length : Int)) = true) then
   if ((0 ≤ t4) ∧ (t4 < (t1.2.2.1.length : Int))) then
    (lockstepref04_put n t3 (((t1.2.2.1.getD t4.toNat ([], [], (0, 0, [], ()), ())).1).length : Int)).bind fun r0 =>
     (lockstepref04_Encode_l11 n t1 t4 (t1.2.2.1.getD t4.toNat ([], [], (0, 0, [], ()), ())) r0 0).bind fun r1 =>
      (lockstepref04_put n r1.1 (r1.2.2.2.1.length : Int)).bind fun r2 =>
       (lockstepref04_Encode_l17 n r1.2.1 t4 r1.2.2 r2 0).bind fun r3 =>
        (lockstepref04_put n r3.1 r3.2.2.2.2.1.1).bind fun r4 =>
         (lockstepref04_put n r4 r3.2.2.2.2.1.2.1).bind fun r5 =>
          (lockstepref02_Row n r3.2.2.2.2.1.2.2.1).bind fun r6 =>
           if ((r5 ++ r6).length ≤ Ev.most) then
            (lockstepref04_Encode_l6 n r3.2.1 (r5 ++ r6) (IntKind.wrap .i64 (t4 + 1)))
           else none
   else none
  else some (t3, t1)
noncomputable def lockstepref04_Encode (n : Nat) (t0 : L_api_Func) : Option (List Int) :=
 (lockstepref04_May n t0).bind fun r0 =>
  if ((!r0) = true) then
   some []
  else (lockstepref02_Row n t0.1).bind fun r1 =>
   (lockstepref04_put n r1 t0.2.1).bind fun r2 =>
    (lockstepref04_put n r2 (t0.2.2.1.length : Int)).bind fun r3 =>
     (lockstepref04_Encode_l6 n t0 r3 0).bind fun r4 =>
      some r4.1
noncomputable def lockstepref04_Encode_l11_h : Sh := ⟨[(1, (.box (.val Y_api_Func))), (4, (.val (.int .i64))), (5, (.box (.val Y_api_Block)))], [(3, (.own (.int .u8))), (6, (.val (.int .i64)))], [3, 6, 40, 41, 42, 43, 44, 45, 46, 47, 48, 49, 50, 51, 52, 53, 54, 55, 56, 57, 58, 59, 60, 61, 62, 63, 64, 65, 66, 67, 68, 69, 70, 71, 72, 73, 74, 75, 76, 77, 78], [⟨.exit 2, [(3, (.own (.int .u8)))]⟩]⟩
noncomputable def lockstepref04_Encode_l11_F (n : Nat) : lockstepref04_Encode_l11_h.Fn := fun x y => lockstepref04_Encode_l11 n x.1 x.2.1 x.2.2.1 y.1 y.2.1
noncomputable def lockstepref04_Encode_l11_k (n : Nat) : Cut := lockstepref04_Encode_l11_h.cut (lockstepref04_Encode_l11_F n)
noncomputable def lockstepref04_Encode_l17_h : Sh := ⟨[(1, (.box (.val Y_api_Func))), (4, (.val (.int .i64))), (5, (.box (.val Y_api_Block)))], [(3, (.own (.int .u8))), (7, (.val (.int .i64)))], [3, 7, 8, 84, 85, 86, 87, 88, 89, 90, 91, 92, 93, 94, 95, 96, 97, 98, 99, 100, 101, 102, 103, 104, 105, 106, 107, 108, 109, 110, 111, 112, 113, 114, 115, 116, 117], [⟨.exit 4, [(3, (.own (.int .u8)))]⟩]⟩
noncomputable def lockstepref04_Encode_l17_F (n : Nat) : lockstepref04_Encode_l17_h.Fn := fun x y => lockstepref04_Encode_l17 n x.1 x.2.1 x.2.2.1 y.1 y.2.1
noncomputable def lockstepref04_Encode_l17_k (n : Nat) : Cut := lockstepref04_Encode_l17_h.cut (lockstepref04_Encode_l17_F n)
noncomputable def lockstepref04_Encode_l6_h : Sh := ⟨[(1, (.box (.val Y_api_Func)))], [(3, (.own (.int .u8))), (4, (.val (.int .i64)))], [3, 4, 5, 6, 7, 8, 23, 24, 25, 26, 27, 28, 29, 30, 31, 32, 33, 34, 35, 36, 37, 38, 39, 40, 41, 42, 43, 44, 45, 46, 47, 48, 49, 50, 51, 52, 53, 54, 55, 56, 57, 58, 59, 60, 61, 62, 63, 64, 65, 66, 67, 68, 69, 70, 71, 72, 73, 74, 75, 76, 77, 78, 79, 80, 81, 82, 83, 84, 85, 86, 87, 88, 89, 90, 91, 92, 93, 94, 95, 96, 97, 98, 99, 100, 101, 102, 103, 104, 105, 106, 107, 108, 109, 110, 111, 112, 113, 114, 115, 116, 117, 118, 119, 120, 121, 122, 123, 124, 125, 126, 127, 128, 129, 130, 131, 132], [⟨.exit 0, [(3, (.own (.int .u8)))]⟩]⟩
noncomputable def lockstepref04_Encode_l6_F (n : Nat) : lockstepref04_Encode_l6_h.Fn := fun x y => lockstepref04_Encode_l6 n x.1 y.1 y.2.1
noncomputable def lockstepref04_Encode_l6_k (n : Nat) : Cut := lockstepref04_Encode_l6_h.cut (lockstepref04_Encode_l6_F n)
noncomputable def lockstepref04_Encode_e (n : Nat) : Env := mkEnv T_ A_ N_ [(15, lockstepref04_May_c n), (36, lockstepref02_Put_c n), (34, lockstepref02_Row_c n), (35, lockstepref04_put_c n)] [((0, 11, 12), lockstepref04_Encode_l11_k n), ((0, 17, 18), lockstepref04_Encode_l17_k n), ((0, 6, 7), lockstepref04_Encode_l6_k n)] 134
noncomputable def lockstepref04_Encode_c (n : Nat) : Con := mkCon [(.val Y_api_Func)] [(.val (.list (.int .u8)))] (fun x => lockstepref04_Encode n x.1)
theorem lockstepref04_Encode_ok (n : Nat) : EnvOK Try.prog (lockstepref04_Encode_e n) := mkEnv_ok tabs ⟨⟨lockstepref04_May_m n, fok15⟩, ⟨lockstepref02_Put_m n, fok36⟩, ⟨lockstepref02_Row_m n, fok34⟩, ⟨lockstepref04_put_m n, fok35⟩, trivial⟩
theorem lockstepref04_Encode_l11_m (n : Nat) : CutMeets Try.prog (.loop (codeAt [1, 1, 1, 1, 0, 1, 0, 0, 1, 0, 0, 1, 1, 0, 1, 0, 0] (bodyOf Try.f17))) 134 (lockstepref04_Encode_l11_k n) :=
 loop_ok lockstepref04_Encode_l11_h lockstepref04_Encode_l11_F (E := lockstepref04_Encode_e) (l := fun n => []) mixed (fun _ => rfl) lockstepref04_Encode_ok (by kernel_rfl) (fun _ => by kernel_rfl) (fun n => trivial) (fun _ _ => rfl) (fun n x y => by kernel_rfl) n
theorem lockstepref04_Encode_l17_m (n : Nat) : CutMeets Try.prog (.loop (codeAt [1, 1, 1, 1, 0, 1, 0, 0, 1, 0, 0, 1, 1, 1, 1, 0, 1, 0, 0] (bodyOf Try.f17))) 134 (lockstepref04_Encode_l17_k n) :=
 loop_ok lockstepref04_Encode_l17_h lockstepref04_Encode_l17_F (E := lockstepref04_Encode_e) (l := fun n => []) mixed (fun _ => rfl) lockstepref04_Encode_ok (by kernel_rfl) (fun _ => by kernel_rfl) (fun n => trivial) (fun _ _ => rfl) (fun n x y => by kernel_rfl) n
theorem lockstepref04_Encode_l6_m (n : Nat) : CutMeets Try.prog (.loop (codeAt [1, 1, 1, 1, 0, 1, 0, 0] (bodyOf Try.f17))) 134 (lockstepref04_Encode_l6_k n) :=
 loop_ok lockstepref04_Encode_l6_h lockstepref04_Encode_l6_F (E := lockstepref04_Encode_e) (l := fun n => [(Code.loop (codeAt [1, 1, 1, 1, 0, 1, 0, 0, 1, 0, 0, 1, 1, 0, 1, 0, 0] (bodyOf Try.f17)), lockstepref04_Encode_l11_k n), (Code.loop (codeAt [1, 1, 1, 1, 0, 1, 0, 0, 1, 0, 0, 1, 1, 1, 1, 0, 1, 0, 0] (bodyOf Try.f17)), lockstepref04_Encode_l17_k n)]) mixed (fun _ => rfl) lockstepref04_Encode_ok (by kernel_rfl) (fun _ => by kernel_rfl) (fun n => ⟨lockstepref04_Encode_l11_m n, lockstepref04_Encode_l17_m n, trivial⟩) (fun _ _ => rfl) (fun n x y => by kernel_rfl) n
theorem lockstepref04_Encode_m (n : Nat) : Meets Try.prog 17 (lockstepref04_Encode_c n) :=
 con_meets (l := [(Code.loop (codeAt [1, 1, 1, 1, 0, 1, 0, 0] (bodyOf Try.f17)), lockstepref04_Encode_l6_k n)]) mixed Try.func17 (by kernel_rfl) (lockstepref04_Encode_ok n) (by kernel_rfl) (by kernel_rfl) (by kernel_rfl) ⟨lockstepref04_Encode_l6_m n, trivial⟩ (fun x => by kernel_rfl)
/-! 37 lockstep/lockstepref02.Ints -/
noncomputable def lockstepref02_Ints_l4 : Nat → (List Int) → (List Int) → Int → Option (Sum Unit Bool)
 | 0, _, _, _ => none
 | n + 1, t0, t1, t5 =>
  if (decide (t5 < (t0.length : Int)) = true) then
   if ((0 ≤ t5) ∧ (t5 < (t0.length : Int))) then
    if ((0 ≤ t5) ∧ (t5 < (t1.length : Int))) then
     if (((t0.getD t5.toNat 0) != (t1.getD t5.toNat 0)) = true) then
      some (.inr false)
     else (lockstepref02_Ints_l4 n t0 t1 (IntKind.wrap .i64 (t5 + 1)))
    else none
   else none
  else some (.inl ())
noncomputable def lockstepref02_Ints (n : Nat) (t0 : (List Int)) (t1 : (List Int)) : Option Bool :=
 if (((t0.length : Int) != (t1.length : Int)) = true) then
  some false
 else (lockstepref02_Ints_l4 n t0 t1 0).bind fun r0 =>
  match r0 with
   | .inl r1 =>
    some true
   | .inr r1 =>
    some r1
noncomputable def lockstepref02_Ints_l4_h : Sh := ⟨[(0, (.val (.list (.int .i64)))), (1, (.val (.list (.int .i64))))], [(5, (.val (.int .i64)))], [4, 5, 11, 12, 13, 14, 15, 16, 17, 18, 19, 20, 21, 22, 23, 24, 25], [⟨.exit 0, []⟩, ⟨.ret, [(4, (.val .bool))]⟩]⟩
noncomputable def lockstepref02_Ints_l4_F (n : Nat) : lockstepref02_Ints_l4_h.Fn := fun x y => lockstepref02_Ints_l4 n x.1 x.2.1 y.1
noncomputable def lockstepref02_Ints_l4_k (n : Nat) : Cut := lockstepref02_Ints_l4_h.cut (lockstepref02_Ints_l4_F n)
noncomputable def lockstepref02_Ints_e (n : Nat) : Env := mkEnv T_ A_ N_ [] [((0, 4, 5), lockstepref02_Ints_l4_k n)] 26
noncomputable def lockstepref02_Ints_c (n : Nat) : Con := mkCon [(.val (.list (.int .i64))), (.val (.list (.int .i64)))] [(.val .bool)] (fun x => lockstepref02_Ints n x.1 x.2.1)
theorem lockstepref02_Ints_ok (n : Nat) : EnvOK Try.prog (lockstepref02_Ints_e n) := mkEnv_ok tabs trivial
theorem lockstepref02_Ints_l4_m (n : Nat) : CutMeets Try.prog (.loop (codeAt [1, 1, 0, 1, 0, 0] (bodyOf Try.f37))) 26 (lockstepref02_Ints_l4_k n) :=
 loop_ok lockstepref02_Ints_l4_h lockstepref02_Ints_l4_F (E := lockstepref02_Ints_e) (l := fun n => []) mixed (fun _ => rfl) lockstepref02_Ints_ok (by kernel_rfl) (fun _ => by kernel_rfl) (fun n => trivial) (fun _ _ => rfl) (fun n x y => by kernel_rfl) n
theorem lockstepref02_Ints_m (n : Nat) : Meets Try.prog 37 (lockstepref02_Ints_c n) :=
 con_meets (l := [(Code.loop (codeAt [1, 1, 0, 1, 0, 0] (bodyOf Try.f37)), lockstepref02_Ints_l4_k n)]) mixed Try.func37 (by kernel_rfl) (lockstepref02_Ints_ok n) (by kernel_rfl) (by kernel_rfl) (by kernel_rfl) ⟨lockstepref02_Ints_l4_m n, trivial⟩ (fun x => by kernel_rfl)
/-! 38 lockstep/lockstepref03.Same -/
noncomputable def lockstepref03_Same (n : Nat) (t0 : L_api_Op) (t1 : L_api_Op) : Option Bool :=
 if ((t0.1 == t1.1) = true) then
  if ((t0.2.1 == t1.2.1) = true) then
   if ((t0.2.2.1 == t1.2.2.1) = true) then
    if ((t0.2.2.2.1 == t1.2.2.2.1) = true) then
     if ((t0.2.2.2.2.2.1 == t1.2.2.2.2.2.1) = true) then
      (lockstepref02_Ints n t0.2.2.2.2.1 t1.2.2.2.2.1).bind fun r0 =>
       some r0
     else some false
    else some false
   else some false
  else some false
 else some false
noncomputable def lockstepref03_Same_e (n : Nat) : Env := mkEnv T_ A_ N_ [(37, lockstepref02_Ints_c n)] [] 45
noncomputable def lockstepref03_Same_c (n : Nat) : Con := mkCon [(.val Y_api_Op), (.val Y_api_Op)] [(.val .bool)] (fun x => lockstepref03_Same n x.1 x.2.1)
theorem lockstepref03_Same_ok (n : Nat) : EnvOK Try.prog (lockstepref03_Same_e n) := mkEnv_ok tabs ⟨⟨lockstepref02_Ints_m n, fok37⟩, trivial⟩
theorem lockstepref03_Same_m (n : Nat) : Meets Try.prog 38 (lockstepref03_Same_c n) :=
 con_meets (l := []) mixed Try.func38 (by kernel_rfl) (lockstepref03_Same_ok n) (by kernel_rfl) (by kernel_rfl) (by kernel_rfl) trivial (fun x => by kernel_rfl)
/-! 18 lockstep/lockstepref04.Same -/
noncomputable def lockstepref04_Same_l11 : Nat → L_api_Func → L_api_Func → Int → L_api_Block → L_api_Block → Int → Option (Sum (L_api_Func × (L_api_Func × (L_api_Block × L_api_Block))) (Bool × (L_api_Func × (L_api_Func × (L_api_Block × L_api_Block)))))
 | 0, _, _, _, _, _, _ => none
 | n + 1, t2, t3, t5, t6, t7, t8 =>
  if (decide (t8 < (t6.1.length : Int)) = true) then
   if ((0 ≤ t8) ∧ (t8 < (t6.1.length : Int))) then
    if ((0 ≤ t8) ∧ (t8 < (t7.1.length : Int))) then
     if (((t6.1.getD t8.toNat (0, 0, [], [], ())).1 != (t7.1.getD t8.toNat (0, 0, [], [], ())).1) = false) then
      if ((((t6.1.getD t8.toNat (0, 0, [], [], ())).2).1 != ((t7.1.getD t8.toNat (0, 0, [], [], ())).2).1) = false) then
       (lockstepref02_Ints n ((((t6.1.getD t8.toNat (0, 0, [], [], ())).2).2).1) ((((t7.1.getD t8.toNat (0, 0, [], [], ())).2).2).1)).bind fun r0 =>
        if ((!r0) = false) then
         (lockstepref02_Ints n (((((t6.1.getD t8.toNat (0, 0, [], [], ())).2).2).2).1) (((((t7.1.getD t8.toNat (0, 0, [], [], ())).2).2).2).1)).bind fun r1 =>
          if ((!r1) = true) then
           some (.inr (false, t2, t3, t6, t7))
          else (lockstepref04_Same_l11 n t2 t3 t5 t6 t7 (IntKind.wrap .i64 (t8 + 1)))
        else some (.inr (false, t2, t3, t6, t7))
      else some (.inr (false, t2, t3, t6, t7))
     else some (.inr (false, t2, t3, t6, t7))
    else none
   else none
  else some (.inl (t2, t3, t6, t7))
noncomputable def lockstepref04_Same_l18 : Nat → L_api_Func → L_api_Func → Int → L_api_Block → L_api_Block → Int → Option (Sum (L_api_Func × (L_api_Func × (L_api_Block × L_api_Block))) (Bool × (L_api_Func × (L_api_Func × (L_api_Block × L_api_Block)))))
 | 0, _, _, _, _, _, _ => none
 | n + 1, t2, t3, t5, t6, t7, t11 =>
  if (decide (t11 < (t6.2.1.length : Int)) = true) then
   if ((0 ≤ t11) ∧ (t11 < (t6.2.1.length : Int))) then
    if ((0 ≤ t11) ∧ (t11 < (t7.2.1.length : Int))) then
     (lockstepref03_Same n (t6.2.1.getD t11.toNat (0, 0, 0, 0, [], 0, ())) (t7.2.1.getD t11.toNat (0, 0, 0, 0, [], 0, ()))).bind fun r0 =>
      if ((!r0) = true) then
       some (.inr (false, t2, t3, t6, t7))
      else (lockstepref04_Same_l18 n t2 t3 t5 t6 t7 (IntKind.wrap .i64 (t11 + 1)))
    else none
   else none
  else some (.inl (t2, t3, t6, t7))
noncomputable def lockstepref04_Same_l4 : Nat → L_api_Func → L_api_Func → Int → Option (Sum (L_api_Func × L_api_Func) (Bool × (L_api_Func × L_api_Func)))
 | 0, _, _, _ => none
 | n + 1, t2, t3, t5 =>
  if (decide (t5 < (t2.2.2.1.length : Int)) = true) then
   if ((0 ≤ t5) ∧ (t5 < (t2.2.2.1.length : Int))) then
    if ((0 ≤ t5) ∧ (t5 < (t3.2.2.1.length : Int))) then
     if (((((t2.2.2.1.getD t5.toNat ([], [], (0, 0, [], ()), ())).1).length : Int) != (((t3.2.2.1.getD t5.toNat ([], [], (0, 0, [], ()), ())).1).length : Int)) = false) then
      if ((((((t2.2.2.1.getD t5.toNat ([], [], (0, 0, [], ()), ())).2).1).length : Int) != ((((t3.2.2.1.getD t5.toNat ([], [], (0, 0, [], ()), ())).2).1).length : Int)) = false) then
       if ((((((t2.2.2.1.getD t5.toNat ([], [], (0, 0, [], ()), ())).2).2).1).1 != ((((t3.2.2.1.getD t5.toNat ([], [], (0, 0, [], ()), ())).2).2).1).1) = false) then
        if (((((((t2.2.2.1.getD t5.toNat ([], [], (0, 0, [], ()), ())).2).2).1).2).1 != (((((t3.2.2.1.getD t5.toNat ([], [], (0, 0, [], ()), ())).2).2).1).2).1) = false) then
         (lockstepref02_Ints n (((((((t2.2.2.1.getD t5.toNat ([], [], (0, 0, [], ()), ())).2).2).1).2).2).1) (((((((t3.2.2.1.getD t5.toNat ([], [], (0, 0, [], ()), ())).2).2).1).2).2).1)).bind fun r0 =>
          if ((!r0) = true) then
           some (.inr (false, t2, t3))
          else (lockstepref04_Same_l11 n t2 t3 t5 (t2.2.2.1.getD t5.toNat ([], [], (0, 0, [], ()), ())) (t3.2.2.1.getD t5.toNat ([], [], (0, 0, [], ()), ())) 0).bind fun r1 =>
           match r1 with
            | .inl r2 =>
             (lockstepref04_Same_l18 n r2.1 r2.2.1 t5 r2.2.2.1 r2.2.2.2 0).bind fun r3 =>
              match r3 with
               | .inl r4 =>
                (lockstepref04_Same_l4 n r4.1 r4.2.1 (IntKind.wrap .i64 (t5 + 1)))
               | .inr r4 =>
                some (.inr (r4.1, r4.2.1, r4.2.2.1))
            | .inr r2 =>
             some (.inr (r2.1, r2.2.1, r2.2.2.1))
        else some (.inr (false, t2, t3))
       else some (.inr (false, t2, t3))
      else some (.inr (false, t2, t3))
     else some (.inr (false, t2, t3))
    else none
   else none
  else some (.inl (t2, t3))
noncomputable def lockstepref04_Same (n : Nat) (t0 : L_api_Func) (t1 : L_api_Func) : Option Bool :=
 if ((t0.2.1 != t1.2.1) = false) then
  (lockstepref02_Ints n t0.1 t1.1).bind fun r0 =>
   if ((!r0) = false) then
    if (((t0.2.2.1.length : Int) != (t1.2.2.1.length : Int)) = true) then
     some false
    else (lockstepref04_Same_l4 n t0 t1 0).bind fun r1 =>
     match r1 with
      | .inl r2 =>
       some true
      | .inr r2 =>
       some r2.1
   else some false
 else some false
noncomputable def lockstepref04_Same_l11_h : Sh := ⟨[(2, (.box (.val Y_api_Func))), (3, (.box (.val Y_api_Func))), (5, (.val (.int .i64))), (6, (.box (.val Y_api_Block))), (7, (.box (.val Y_api_Block)))], [(8, (.val (.int .i64)))], [4, 8, 9, 10, 95, 96, 97, 98, 99, 100, 101, 102, 103, 104, 105, 106, 107, 108, 109, 110, 111, 112, 113, 114, 115, 116, 117, 118, 119, 120, 121, 122, 123, 124, 125, 126, 127, 128, 129, 130, 131, 132, 133, 134, 135, 136, 137, 138, 139], [⟨.exit 2, []⟩, ⟨.ret, [(4, (.val .bool))]⟩]⟩
noncomputable def lockstepref04_Same_l11_F (n : Nat) : lockstepref04_Same_l11_h.Fn := fun x y => lockstepref04_Same_l11 n x.1 x.2.1 x.2.2.1 x.2.2.2.1 x.2.2.2.2.1 y.1
noncomputable def lockstepref04_Same_l11_k (n : Nat) : Cut := lockstepref04_Same_l11_h.cut (lockstepref04_Same_l11_F n)
noncomputable def lockstepref04_Same_l18_h : Sh := ⟨[(2, (.box (.val Y_api_Func))), (3, (.box (.val Y_api_Func))), (5, (.val (.int .i64))), (6, (.box (.val Y_api_Block))), (7, (.box (.val Y_api_Block)))], [(11, (.val (.int .i64)))], [4, 11, 140, 141, 142, 143, 144, 145, 146, 147, 148, 149, 150, 151, 152, 153, 154, 155, 156, 157, 158], [⟨.exit 4, []⟩, ⟨.ret, [(4, (.val .bool))]⟩]⟩
noncomputable def lockstepref04_Same_l18_F (n : Nat) : lockstepref04_Same_l18_h.Fn := fun x y => lockstepref04_Same_l18 n x.1 x.2.1 x.2.2.1 x.2.2.2.1 x.2.2.2.2.1 y.1
noncomputable def lockstepref04_Same_l18_k (n : Nat) : Cut := lockstepref04_Same_l18_h.cut (lockstepref04_Same_l18_F n)
noncomputable def lockstepref04_Same_l4_h : Sh := ⟨[(2, (.box (.val Y_api_Func))), (3, (.box (.val Y_api_Func)))], [(5, (.val (.int .i64)))], [4, 5, 6, 7, 8, 9, 10, 11, 34, 35, 36, 37, 38, 39, 40, 41, 42, 43, 44, 45, 46, 47, 48, 49, 50, 51, 52, 53, 54, 55, 56, 57, 58, 59, 60, 61, 62, 63, 64, 65, 66, 67, 68, 69, 70, 71, 72, 73, 74, 75, 76, 77, 78, 79, 80, 81, 82, 83, 84, 85, 86, 87, 88, 89, 90, 91, 92, 93, 94, 95, 96, 97, 98, 99, 100, 101, 102, 103, 104, 105, 106, 107, 108, 109, 110, 111, 112, 113, 114, 115, 116, 117, 118, 119, 120, 121, 122, 123, 124, 125, 126, 127, 128, 129, 130, 131, 132, 133, 134, 135, 136, 137, 138, 139, 140, 141, 142, 143, 144, 145, 146, 147, 148, 149, 150, 151, 152, 153, 154, 155, 156, 157, 158], [⟨.exit 0, []⟩, ⟨.ret, [(4, (.val .bool))]⟩]⟩
noncomputable def lockstepref04_Same_l4_F (n : Nat) : lockstepref04_Same_l4_h.Fn := fun x y => lockstepref04_Same_l4 n x.1 x.2.1 y.1
noncomputable def lockstepref04_Same_l4_k (n : Nat) : Cut := lockstepref04_Same_l4_h.cut (lockstepref04_Same_l4_F n)
noncomputable def lockstepref04_Same_e (n : Nat) : Env := mkEnv T_ A_ N_ [(37, lockstepref02_Ints_c n), (38, lockstepref03_Same_c n)] [((0, 11, 12), lockstepref04_Same_l11_k n), ((0, 18, 19), lockstepref04_Same_l18_k n), ((0, 4, 5), lockstepref04_Same_l4_k n)] 159
noncomputable def lockstepref04_Same_c (n : Nat) : Con := mkCon [(.val Y_api_Func), (.val Y_api_Func)] [(.val .bool)] (fun x => lockstepref04_Same n x.1 x.2.1)
theorem lockstepref04_Same_ok (n : Nat) : EnvOK Try.prog (lockstepref04_Same_e n) := mkEnv_ok tabs ⟨⟨lockstepref02_Ints_m n, fok37⟩, ⟨lockstepref03_Same_m n, fok38⟩, trivial⟩
theorem lockstepref04_Same_l11_m (n : Nat) : CutMeets Try.prog (.loop (codeAt [1, 1, 0, 1, 0, 0, 1, 0, 0, 1, 1, 1, 0, 1, 0, 0] (bodyOf Try.f18))) 159 (lockstepref04_Same_l11_k n) :=
 loop_ok lockstepref04_Same_l11_h lockstepref04_Same_l11_F (E := lockstepref04_Same_e) (l := fun n => []) mixed (fun _ => rfl) lockstepref04_Same_ok (by kernel_rfl) (fun _ => by kernel_rfl) (fun n => trivial) (fun _ _ => rfl) (fun n x y => by kernel_rfl) n
theorem lockstepref04_Same_l18_m (n : Nat) : CutMeets Try.prog (.loop (codeAt [1, 1, 0, 1, 0, 0, 1, 0, 0, 1, 1, 1, 1, 1, 0, 0] (bodyOf Try.f18))) 159 (lockstepref04_Same_l18_k n) :=
 loop_ok lockstepref04_Same_l18_h lockstepref04_Same_l18_F (E := lockstepref04_Same_e) (l := fun n => []) mixed (fun _ => rfl) lockstepref04_Same_ok (by kernel_rfl) (fun _ => by kernel_rfl) (fun n => trivial) (fun _ _ => rfl) (fun n x y => by kernel_rfl) n
theorem lockstepref04_Same_l4_m (n : Nat) : CutMeets Try.prog (.loop (codeAt [1, 1, 0, 1, 0, 0] (bodyOf Try.f18))) 159 (lockstepref04_Same_l4_k n) :=
 loop_ok lockstepref04_Same_l4_h lockstepref04_Same_l4_F (E := lockstepref04_Same_e) (l := fun n => [(Code.loop (codeAt [1, 1, 0, 1, 0, 0, 1, 0, 0, 1, 1, 1, 0, 1, 0, 0] (bodyOf Try.f18)), lockstepref04_Same_l11_k n), (Code.loop (codeAt [1, 1, 0, 1, 0, 0, 1, 0, 0, 1, 1, 1, 1, 1, 0, 0] (bodyOf Try.f18)), lockstepref04_Same_l18_k n)]) mixed (fun _ => rfl) lockstepref04_Same_ok (by kernel_rfl) (fun _ => by kernel_rfl) (fun n => ⟨lockstepref04_Same_l11_m n, lockstepref04_Same_l18_m n, trivial⟩) (fun _ _ => rfl) (fun n x y => by kernel_rfl) n
theorem lockstepref04_Same_m (n : Nat) : Meets Try.prog 18 (lockstepref04_Same_c n) :=
 con_meets (l := [(Code.loop (codeAt [1, 1, 0, 1, 0, 0] (bodyOf Try.f18)), lockstepref04_Same_l4_k n)]) mixed Try.func18 (by kernel_rfl) (lockstepref04_Same_ok n) (by kernel_rfl) (by kernel_rfl) (by kernel_rfl) ⟨lockstepref04_Same_l4_m n, trivial⟩ (fun x => by kernel_rfl)
/-! 40 slices.Equal[[]int,int] -/
noncomputable def slices_Equal_int_int_l4 : Nat → (List Int) → (List Int) → Int → Int → Option (Sum Unit Bool)
 | 0, _, _, _, _ => none
 | n + 1, t0, t1, t12, t13 =>
  if (decide (t13 < t12) = true) then
   if ((0 ≤ t13) ∧ (t13 < (t0.length : Int))) then
    if ((0 ≤ t13) ∧ (t13 < (t1.length : Int))) then
     if (((t0.getD t13.toNat 0) != (t1.getD t13.toNat 0)) = true) then
      some (.inr false)
     else (slices_Equal_int_int_l4 n t0 t1 t12 (IntKind.wrap .i64 (t13 + 1)))
    else none
   else none
  else some (.inl ())
noncomputable def slices_Equal_int_int (n : Nat) (t0 : (List Int)) (t1 : (List Int)) : Option Bool :=
 if (((t0.length : Int) != (t1.length : Int)) = true) then
  some false
 else (slices_Equal_int_int_l4 n t0 t1 (t0.length : Int) 0).bind fun r0 =>
  match r0 with
   | .inl r1 =>
    some true
   | .inr r1 =>
    some r1
noncomputable def slices_Equal_int_int_l4_h : Sh := ⟨[(0, (.val (.list (.int .i64)))), (1, (.val (.list (.int .i64)))), (12, (.val (.int .i64)))], [(13, (.val (.int .i64)))], [4, 5, 13, 14, 15, 16, 17, 18, 19, 20, 21, 22, 23, 24, 25], [⟨.exit 0, []⟩, ⟨.ret, [(4, (.val .bool))]⟩]⟩
noncomputable def slices_Equal_int_int_l4_F (n : Nat) : slices_Equal_int_int_l4_h.Fn := fun x y => slices_Equal_int_int_l4 n x.1 x.2.1 x.2.2.1 y.1
noncomputable def slices_Equal_int_int_l4_k (n : Nat) : Cut := slices_Equal_int_int_l4_h.cut (slices_Equal_int_int_l4_F n)
noncomputable def slices_Equal_int_int_e (n : Nat) : Env := mkEnv T_ A_ N_ [] [((0, 4, 8), slices_Equal_int_int_l4_k n)] 26
noncomputable def slices_Equal_int_int_c (n : Nat) : Con := mkCon [(.val (.list (.int .i64))), (.val (.list (.int .i64)))] [(.val .bool)] (fun x => slices_Equal_int_int n x.1 x.2.1)
theorem slices_Equal_int_int_ok (n : Nat) : EnvOK Try.prog (slices_Equal_int_int_e n) := mkEnv_ok tabs trivial
theorem slices_Equal_int_int_l4_m (n : Nat) : CutMeets Try.prog (.loop (codeAt [1, 1, 0, 1, 0, 0] (bodyOf Try.f40))) 26 (slices_Equal_int_int_l4_k n) :=
 loop_ok slices_Equal_int_int_l4_h slices_Equal_int_int_l4_F (E := slices_Equal_int_int_e) (l := fun n => []) mixed (fun _ => rfl) slices_Equal_int_int_ok (by kernel_rfl) (fun _ => by kernel_rfl) (fun n => trivial) (fun _ _ => rfl) (fun n x y => by kernel_rfl) n
theorem slices_Equal_int_int_m (n : Nat) : Meets Try.prog 40 (slices_Equal_int_int_c n) :=
 con_meets (l := [(Code.loop (codeAt [1, 1, 0, 1, 0, 0] (bodyOf Try.f40)), slices_Equal_int_int_l4_k n)]) mixed Try.func40 (by kernel_rfl) (slices_Equal_int_int_ok n) (by kernel_rfl) (by kernel_rfl) (by kernel_rfl) ⟨slices_Equal_int_int_l4_m n, trivial⟩ (fun x => by kernel_rfl)
/-! 39 lockstep/code.Same$1 -/
noncomputable def code_Same_1 (n : Nat) (t0 : L_api_Phi) (t1 : L_api_Phi) : Option Bool :=
 if ((t0.1 == t1.1) = true) then
  if ((t0.2.1 == t1.2.1) = true) then
   (slices_Equal_int_int n t0.2.2.1 t1.2.2.1).bind fun r0 =>
    if (r0 = true) then
     (slices_Equal_int_int n t0.2.2.2.1 t1.2.2.2.1).bind fun r1 =>
      some r1
    else some false
  else some false
 else some false
noncomputable def code_Same_1_e (n : Nat) : Env := mkEnv T_ A_ N_ [(40, slices_Equal_int_int_c n)] [] 31
noncomputable def code_Same_1_c (n : Nat) : Con := mkCon [(.val Y_api_Phi), (.val Y_api_Phi)] [(.val .bool)] (fun x => code_Same_1 n x.1 x.2.1)
theorem code_Same_1_ok (n : Nat) : EnvOK Try.prog (code_Same_1_e n) := mkEnv_ok tabs ⟨⟨slices_Equal_int_int_m n, fok40⟩, trivial⟩
theorem code_Same_1_m (n : Nat) : Meets Try.prog 39 (code_Same_1_c n) :=
 con_meets (l := []) mixed Try.func39 (by kernel_rfl) (code_Same_1_ok n) (by kernel_rfl) (by kernel_rfl) (by kernel_rfl) trivial (fun x => by kernel_rfl)
/-! 42 slices.EqualFunc[[]lockstep/api.Phi,[]lockstep/api.Phi,lockstep/api.Phi,lockstep/api.Phi] -/
noncomputable def slices_EqualFunc_api_Phi_api_Phi_api_Phi_api_Phi_code_Same_1_l4 : Nat → (List L_api_Phi) → Unit → (List L_api_Phi) → Int → Int → Option (Sum Unit Bool)
 | 0, _, _, _, _, _ => none
 | n + 1, t1, t2, t15, t16, t17 =>
  if (decide (t17 < t16) = true) then
   if ((0 ≤ t17) ∧ (t17 < (t15.length : Int))) then
    if ((0 ≤ t17) ∧ (t17 < (t1.length : Int))) then
     (code_Same_1 n (t15.getD t17.toNat (0, 0, [], [], ())) (t1.getD t17.toNat (0, 0, [], [], ()))).bind fun r0 =>
      if ((!r0) = true) then
       some (.inr false)
      else (slices_EqualFunc_api_Phi_api_Phi_api_Phi_api_Phi_code_Same_1_l4 n t1 () t15 t16 (IntKind.wrap .i64 (t17 + 1)))
    else none
   else none
  else some (.inl ())
noncomputable def slices_EqualFunc_api_Phi_api_Phi_api_Phi_api_Phi_code_Same_1 (n : Nat) (t0 : (List L_api_Phi)) (t1 : (List L_api_Phi)) (t2 : Unit) : Option Bool :=
 if (((t0.length : Int) != (t1.length : Int)) = true) then
  some false
 else (slices_EqualFunc_api_Phi_api_Phi_api_Phi_api_Phi_code_Same_1_l4 n t1 () t0 (t0.length : Int) 0).bind fun r0 =>
  match r0 with
   | .inl r1 =>
    some true
   | .inr r1 =>
    some r1
noncomputable def slices_EqualFunc_api_Phi_api_Phi_api_Phi_api_Phi_code_Same_1_l4_h : Sh := ⟨[(1, (.val (.list Y_api_Phi))), (2, (.func 39 0 .unit)), (15, (.val (.list Y_api_Phi))), (16, (.val (.int .i64)))], [(17, (.val (.int .i64)))], [6, 7, 8, 9, 17, 18, 19, 20, 21, 22, 23, 24, 25, 26, 27, 28, 29, 30, 31], [⟨.exit 0, []⟩, ⟨.ret, [(6, (.val .bool))]⟩]⟩
noncomputable def slices_EqualFunc_api_Phi_api_Phi_api_Phi_api_Phi_code_Same_1_l4_F (n : Nat) : slices_EqualFunc_api_Phi_api_Phi_api_Phi_api_Phi_code_Same_1_l4_h.Fn := fun x y => slices_EqualFunc_api_Phi_api_Phi_api_Phi_api_Phi_code_Same_1_l4 n x.1 x.2.1 x.2.2.1 x.2.2.2.1 y.1
noncomputable def slices_EqualFunc_api_Phi_api_Phi_api_Phi_api_Phi_code_Same_1_l4_k (n : Nat) : Cut := slices_EqualFunc_api_Phi_api_Phi_api_Phi_api_Phi_code_Same_1_l4_h.cut (slices_EqualFunc_api_Phi_api_Phi_api_Phi_api_Phi_code_Same_1_l4_F n)
noncomputable def slices_EqualFunc_api_Phi_api_Phi_api_Phi_api_Phi_code_Same_1_e (n : Nat) : Env := mkEnv T_ A_ N_ [(39, code_Same_1_c n)] [((0, 4, 9), slices_EqualFunc_api_Phi_api_Phi_api_Phi_api_Phi_code_Same_1_l4_k n)] 32
noncomputable def slices_EqualFunc_api_Phi_api_Phi_api_Phi_api_Phi_code_Same_1_c (n : Nat) : Con := mkCon [(.val (.list Y_api_Phi)), (.val (.list Y_api_Phi)), (.func 39 0 .unit)] [(.val .bool)] (fun x => slices_EqualFunc_api_Phi_api_Phi_api_Phi_api_Phi_code_Same_1 n x.1 x.2.1 x.2.2.1)
theorem slices_EqualFunc_api_Phi_api_Phi_api_Phi_api_Phi_code_Same_1_ok (n : Nat) : EnvOK Try.prog (slices_EqualFunc_api_Phi_api_Phi_api_Phi_api_Phi_code_Same_1_e n) := mkEnv_ok tabs ⟨⟨code_Same_1_m n, fok39⟩, trivial⟩
theorem slices_EqualFunc_api_Phi_api_Phi_api_Phi_api_Phi_code_Same_1_l4_m (n : Nat) : CutMeets Try.prog (.loop (codeAt [1, 1, 0, 1, 0, 0] (bodyOf Try.f42))) 32 (slices_EqualFunc_api_Phi_api_Phi_api_Phi_api_Phi_code_Same_1_l4_k n) :=
 loop_ok slices_EqualFunc_api_Phi_api_Phi_api_Phi_api_Phi_code_Same_1_l4_h slices_EqualFunc_api_Phi_api_Phi_api_Phi_api_Phi_code_Same_1_l4_F (E := slices_EqualFunc_api_Phi_api_Phi_api_Phi_api_Phi_code_Same_1_e) (l := fun n => []) mixed (fun _ => rfl) slices_EqualFunc_api_Phi_api_Phi_api_Phi_api_Phi_code_Same_1_ok (by kernel_rfl) (fun _ => by kernel_rfl) (fun n => trivial) (fun _ _ => rfl) (fun n x y => by kernel_rfl) n
theorem slices_EqualFunc_api_Phi_api_Phi_api_Phi_api_Phi_code_Same_1_m (n : Nat) : Meets Try.prog 42 (slices_EqualFunc_api_Phi_api_Phi_api_Phi_api_Phi_code_Same_1_c n) :=
 con_meets (l := [(Code.loop (codeAt [1, 1, 0, 1, 0, 0] (bodyOf Try.f42)), slices_EqualFunc_api_Phi_api_Phi_api_Phi_api_Phi_code_Same_1_l4_k n)]) mixed Try.func42 (by kernel_rfl) (slices_EqualFunc_api_Phi_api_Phi_api_Phi_api_Phi_code_Same_1_ok n) (by kernel_rfl) (by kernel_rfl) (by kernel_rfl) ⟨slices_EqualFunc_api_Phi_api_Phi_api_Phi_api_Phi_code_Same_1_l4_m n, trivial⟩ (fun x => by kernel_rfl)
/-! 44 lockstep/kind.Same -/
noncomputable def kind_Same (n : Nat) (t0 : L_api_Op) (t1 : L_api_Op) : Option Bool :=
 if ((t0.1 == t1.1) = true) then
  if ((t0.2.1 == t1.2.1) = true) then
   if ((t0.2.2.1 == t1.2.2.1) = true) then
    if ((t0.2.2.2.1 == t1.2.2.2.1) = true) then
     if ((t0.2.2.2.2.2.1 == t1.2.2.2.2.2.1) = true) then
      (slices_Equal_int_int n t0.2.2.2.2.1 t1.2.2.2.2.1).bind fun r0 =>
       some r0
     else some false
    else some false
   else some false
  else some false
 else some false
noncomputable def kind_Same_e (n : Nat) : Env := mkEnv T_ A_ N_ [(40, slices_Equal_int_int_c n)] [] 45
noncomputable def kind_Same_c (n : Nat) : Con := mkCon [(.val Y_api_Op), (.val Y_api_Op)] [(.val .bool)] (fun x => kind_Same n x.1 x.2.1)
theorem kind_Same_ok (n : Nat) : EnvOK Try.prog (kind_Same_e n) := mkEnv_ok tabs ⟨⟨slices_Equal_int_int_m n, fok40⟩, trivial⟩
theorem kind_Same_m (n : Nat) : Meets Try.prog 44 (kind_Same_c n) :=
 con_meets (l := []) mixed Try.func44 (by kernel_rfl) (kind_Same_ok n) (by kernel_rfl) (by kernel_rfl) (by kernel_rfl) trivial (fun x => by kernel_rfl)
/-! 43 slices.EqualFunc[[]lockstep/api.Op,[]lockstep/api.Op,lockstep/api.Op,lockstep/api.Op] -/
noncomputable def slices_EqualFunc_api_Op_api_Op_api_Op_api_Op_kind_Same_l4 : Nat → (List L_api_Op) → Unit → (List L_api_Op) → Int → Int → Option (Sum Unit Bool)
 | 0, _, _, _, _, _ => none
 | n + 1, t1, t2, t15, t16, t17 =>
  if (decide (t17 < t16) = true) then
   if ((0 ≤ t17) ∧ (t17 < (t15.length : Int))) then
    if ((0 ≤ t17) ∧ (t17 < (t1.length : Int))) then
     (kind_Same n (t15.getD t17.toNat (0, 0, 0, 0, [], 0, ())) (t1.getD t17.toNat (0, 0, 0, 0, [], 0, ()))).bind fun r0 =>
      if ((!r0) = true) then
       some (.inr false)
      else (slices_EqualFunc_api_Op_api_Op_api_Op_api_Op_kind_Same_l4 n t1 () t15 t16 (IntKind.wrap .i64 (t17 + 1)))
    else none
   else none
  else some (.inl ())
noncomputable def slices_EqualFunc_api_Op_api_Op_api_Op_api_Op_kind_Same (n : Nat) (t0 : (List L_api_Op)) (t1 : (List L_api_Op)) (t2 : Unit) : Option Bool :=
 if (((t0.length : Int) != (t1.length : Int)) = true) then
  some false
 else (slices_EqualFunc_api_Op_api_Op_api_Op_api_Op_kind_Same_l4 n t1 () t0 (t0.length : Int) 0).bind fun r0 =>
  match r0 with
   | .inl r1 =>
    some true
   | .inr r1 =>
    some r1
noncomputable def slices_EqualFunc_api_Op_api_Op_api_Op_api_Op_kind_Same_l4_h : Sh := ⟨[(1, (.val (.list Y_api_Op))), (2, (.func 44 0 .unit)), (15, (.val (.list Y_api_Op))), (16, (.val (.int .i64)))], [(17, (.val (.int .i64)))], [6, 7, 8, 9, 17, 18, 19, 20, 21, 22, 23, 24, 25, 26, 27, 28, 29, 30, 31], [⟨.exit 0, []⟩, ⟨.ret, [(6, (.val .bool))]⟩]⟩
noncomputable def slices_EqualFunc_api_Op_api_Op_api_Op_api_Op_kind_Same_l4_F (n : Nat) : slices_EqualFunc_api_Op_api_Op_api_Op_api_Op_kind_Same_l4_h.Fn := fun x y => slices_EqualFunc_api_Op_api_Op_api_Op_api_Op_kind_Same_l4 n x.1 x.2.1 x.2.2.1 x.2.2.2.1 y.1
noncomputable def slices_EqualFunc_api_Op_api_Op_api_Op_api_Op_kind_Same_l4_k (n : Nat) : Cut := slices_EqualFunc_api_Op_api_Op_api_Op_api_Op_kind_Same_l4_h.cut (slices_EqualFunc_api_Op_api_Op_api_Op_api_Op_kind_Same_l4_F n)
noncomputable def slices_EqualFunc_api_Op_api_Op_api_Op_api_Op_kind_Same_e (n : Nat) : Env := mkEnv T_ A_ N_ [(44, kind_Same_c n)] [((0, 4, 9), slices_EqualFunc_api_Op_api_Op_api_Op_api_Op_kind_Same_l4_k n)] 32
noncomputable def slices_EqualFunc_api_Op_api_Op_api_Op_api_Op_kind_Same_c (n : Nat) : Con := mkCon [(.val (.list Y_api_Op)), (.val (.list Y_api_Op)), (.func 44 0 .unit)] [(.val .bool)] (fun x => slices_EqualFunc_api_Op_api_Op_api_Op_api_Op_kind_Same n x.1 x.2.1 x.2.2.1)
theorem slices_EqualFunc_api_Op_api_Op_api_Op_api_Op_kind_Same_ok (n : Nat) : EnvOK Try.prog (slices_EqualFunc_api_Op_api_Op_api_Op_api_Op_kind_Same_e n) := mkEnv_ok tabs ⟨⟨kind_Same_m n, fok44⟩, trivial⟩
theorem slices_EqualFunc_api_Op_api_Op_api_Op_api_Op_kind_Same_l4_m (n : Nat) : CutMeets Try.prog (.loop (codeAt [1, 1, 0, 1, 0, 0] (bodyOf Try.f43))) 32 (slices_EqualFunc_api_Op_api_Op_api_Op_api_Op_kind_Same_l4_k n) :=
 loop_ok slices_EqualFunc_api_Op_api_Op_api_Op_api_Op_kind_Same_l4_h slices_EqualFunc_api_Op_api_Op_api_Op_api_Op_kind_Same_l4_F (E := slices_EqualFunc_api_Op_api_Op_api_Op_api_Op_kind_Same_e) (l := fun n => []) mixed (fun _ => rfl) slices_EqualFunc_api_Op_api_Op_api_Op_api_Op_kind_Same_ok (by kernel_rfl) (fun _ => by kernel_rfl) (fun n => trivial) (fun _ _ => rfl) (fun n x y => by kernel_rfl) n
theorem slices_EqualFunc_api_Op_api_Op_api_Op_api_Op_kind_Same_m (n : Nat) : Meets Try.prog 43 (slices_EqualFunc_api_Op_api_Op_api_Op_api_Op_kind_Same_c n) :=
 con_meets (l := [(Code.loop (codeAt [1, 1, 0, 1, 0, 0] (bodyOf Try.f43)), slices_EqualFunc_api_Op_api_Op_api_Op_api_Op_kind_Same_l4_k n)]) mixed Try.func43 (by kernel_rfl) (slices_EqualFunc_api_Op_api_Op_api_Op_api_Op_kind_Same_ok n) (by kernel_rfl) (by kernel_rfl) (by kernel_rfl) ⟨slices_EqualFunc_api_Op_api_Op_api_Op_api_Op_kind_Same_l4_m n, trivial⟩ (fun x => by kernel_rfl)
/-! 41 lockstep/code.Same$2 -/
noncomputable def code_Same_2 (n : Nat) (t0 : L_api_Block) (t1 : L_api_Block) (t2 : Unit) : Option (Bool × Unit) :=
 if ((t0.2.2.1.1 == t1.2.2.1.1) = true) then
  if ((t0.2.2.1.2.1 == t1.2.2.1.2.1) = true) then
   (slices_Equal_int_int n t0.2.2.1.2.2.1 t1.2.2.1.2.2.1).bind fun r0 =>
    (slices_EqualFunc_api_Phi_api_Phi_api_Phi_api_Phi_code_Same_1 n t0.1 t1.1 ()).bind fun r1 =>
     if (r1 = true) then
      (slices_EqualFunc_api_Op_api_Op_api_Op_api_Op_kind_Same n t0.2.1 t1.2.1 ()).bind fun r2 =>
       if (r2 = true) then
        some (r0, ())
       else some (false, ())
     else some (false, ())
  else (slices_EqualFunc_api_Phi_api_Phi_api_Phi_api_Phi_code_Same_1 n t0.1 t1.1 ()).bind fun r0 =>
   if (r0 = true) then
    (slices_EqualFunc_api_Op_api_Op_api_Op_api_Op_kind_Same n t0.2.1 t1.2.1 ()).bind fun r1 =>
     if (r1 = true) then
      some (false, ())
     else some (false, ())
   else some (false, ())
 else (slices_EqualFunc_api_Phi_api_Phi_api_Phi_api_Phi_code_Same_1 n t0.1 t1.1 ()).bind fun r0 =>
  if (r0 = true) then
   (slices_EqualFunc_api_Op_api_Op_api_Op_api_Op_kind_Same n t0.2.1 t1.2.1 ()).bind fun r1 =>
    if (r1 = true) then
     some (false, ())
    else some (false, ())
  else some (false, ())
noncomputable def code_Same_2_e (n : Nat) : Env := mkEnv T_ A_ N_ [(40, slices_Equal_int_int_c n), (39, code_Same_1_c n), (42, slices_EqualFunc_api_Phi_api_Phi_api_Phi_api_Phi_code_Same_1_c n), (44, kind_Same_c n), (43, slices_EqualFunc_api_Op_api_Op_api_Op_api_Op_kind_Same_c n)] [] 48
noncomputable def code_Same_2_c (n : Nat) : Con := mkCon [(.val Y_api_Block), (.val Y_api_Block), (.box (.func 39 0 .unit))] [(.val .bool)] (fun x => code_Same_2 n x.1 x.2.1 x.2.2.1)
theorem code_Same_2_ok (n : Nat) : EnvOK Try.prog (code_Same_2_e n) := mkEnv_ok tabs ⟨⟨slices_Equal_int_int_m n, fok40⟩, ⟨code_Same_1_m n, fok39⟩, ⟨slices_EqualFunc_api_Phi_api_Phi_api_Phi_api_Phi_code_Same_1_m n, fok42⟩, ⟨kind_Same_m n, fok44⟩, ⟨slices_EqualFunc_api_Op_api_Op_api_Op_api_Op_kind_Same_m n, fok43⟩, trivial⟩
theorem code_Same_2_m (n : Nat) : Meets Try.prog 41 (code_Same_2_c n) :=
 con_meets (l := []) mixed Try.func41 (by kernel_rfl) (code_Same_2_ok n) (by kernel_rfl) (by kernel_rfl) (by kernel_rfl) trivial (fun x => by kernel_rfl)
/-! 45 slices.EqualFunc[[]lockstep/api.Block,[]lockstep/api.Block,lockstep/api.Block,lockstep/api.Block] -/
noncomputable def slices_EqualFunc_api_Block_api_Block_api_Block_api_Block_code_Same_2_l4 : Nat → (List L_api_Block) → (Unit × Unit) → (List L_api_Block) → Int → Int → Option (Sum (Unit × Unit) (Bool × (Unit × Unit)))
 | 0, _, _, _, _, _ => none
 | n + 1, t1, t2, t15, t16, t17 =>
  if (decide (t17 < t16) = true) then
   if ((0 ≤ t17) ∧ (t17 < (t15.length : Int))) then
    if ((0 ≤ t17) ∧ (t17 < (t1.length : Int))) then
     (code_Same_2 n (t15.getD t17.toNat ([], [], (0, 0, [], ()), ())) (t1.getD t17.toNat ([], [], (0, 0, [], ()), ())) ()).bind fun r0 =>
      if ((!r0.1) = true) then
       some (.inr (false, (), ()))
      else (slices_EqualFunc_api_Block_api_Block_api_Block_api_Block_code_Same_2_l4 n t1 ((), ()) t15 t16 (IntKind.wrap .i64 (t17 + 1)))
    else none
   else none
  else some (.inl ((), ()))
noncomputable def slices_EqualFunc_api_Block_api_Block_api_Block_api_Block_code_Same_2 (n : Nat) (t0 : (List L_api_Block)) (t1 : (List L_api_Block)) (t2 : (Unit × Unit)) : Option (Bool × (Unit × Unit)) :=
 if (((t0.length : Int) != (t1.length : Int)) = true) then
  some (false, (), ())
 else (slices_EqualFunc_api_Block_api_Block_api_Block_api_Block_code_Same_2_l4 n t1 ((), ()) t0 (t0.length : Int) 0).bind fun r0 =>
  match r0 with
   | .inl r1 =>
    some (true, (), ())
   | .inr r1 =>
    some r1
noncomputable def slices_EqualFunc_api_Block_api_Block_api_Block_api_Block_code_Same_2_l4_h : Sh := ⟨[(1, (.val (.list Y_api_Block))), (2, (.func 41 0 (.pair (.box (.func 39 0 .unit)) .unit))), (15, (.val (.list Y_api_Block))), (16, (.val (.int .i64)))], [(17, (.val (.int .i64)))], [6, 7, 8, 9, 17, 18, 19, 20, 21, 22, 23, 24, 25, 26, 27, 28, 29, 30, 31], [⟨.exit 0, []⟩, ⟨.ret, [(6, (.val .bool))]⟩]⟩
noncomputable def slices_EqualFunc_api_Block_api_Block_api_Block_api_Block_code_Same_2_l4_F (n : Nat) : slices_EqualFunc_api_Block_api_Block_api_Block_api_Block_code_Same_2_l4_h.Fn := fun x y => slices_EqualFunc_api_Block_api_Block_api_Block_api_Block_code_Same_2_l4 n x.1 x.2.1 x.2.2.1 x.2.2.2.1 y.1
noncomputable def slices_EqualFunc_api_Block_api_Block_api_Block_api_Block_code_Same_2_l4_k (n : Nat) : Cut := slices_EqualFunc_api_Block_api_Block_api_Block_api_Block_code_Same_2_l4_h.cut (slices_EqualFunc_api_Block_api_Block_api_Block_api_Block_code_Same_2_l4_F n)
noncomputable def slices_EqualFunc_api_Block_api_Block_api_Block_api_Block_code_Same_2_e (n : Nat) : Env := mkEnv T_ A_ N_ [(39, code_Same_1_c n), (41, code_Same_2_c n)] [((0, 4, 9), slices_EqualFunc_api_Block_api_Block_api_Block_api_Block_code_Same_2_l4_k n)] 32
noncomputable def slices_EqualFunc_api_Block_api_Block_api_Block_api_Block_code_Same_2_c (n : Nat) : Con := mkCon [(.val (.list Y_api_Block)), (.val (.list Y_api_Block)), (.func 41 0 (.pair (.box (.func 39 0 .unit)) .unit))] [(.val .bool)] (fun x => slices_EqualFunc_api_Block_api_Block_api_Block_api_Block_code_Same_2 n x.1 x.2.1 x.2.2.1)
theorem slices_EqualFunc_api_Block_api_Block_api_Block_api_Block_code_Same_2_ok (n : Nat) : EnvOK Try.prog (slices_EqualFunc_api_Block_api_Block_api_Block_api_Block_code_Same_2_e n) := mkEnv_ok tabs ⟨⟨code_Same_1_m n, fok39⟩, ⟨code_Same_2_m n, fok41⟩, trivial⟩
theorem slices_EqualFunc_api_Block_api_Block_api_Block_api_Block_code_Same_2_l4_m (n : Nat) : CutMeets Try.prog (.loop (codeAt [1, 1, 0, 1, 0, 0] (bodyOf Try.f45))) 32 (slices_EqualFunc_api_Block_api_Block_api_Block_api_Block_code_Same_2_l4_k n) :=
 loop_ok slices_EqualFunc_api_Block_api_Block_api_Block_api_Block_code_Same_2_l4_h slices_EqualFunc_api_Block_api_Block_api_Block_api_Block_code_Same_2_l4_F (E := slices_EqualFunc_api_Block_api_Block_api_Block_api_Block_code_Same_2_e) (l := fun n => []) mixed (fun _ => rfl) slices_EqualFunc_api_Block_api_Block_api_Block_api_Block_code_Same_2_ok (by kernel_rfl) (fun _ => by kernel_rfl) (fun n => trivial) (fun _ _ => rfl) (fun n x y => by kernel_rfl) n
theorem slices_EqualFunc_api_Block_api_Block_api_Block_api_Block_code_Same_2_m (n : Nat) : Meets Try.prog 45 (slices_EqualFunc_api_Block_api_Block_api_Block_api_Block_code_Same_2_c n) :=
 con_meets (l := [(Code.loop (codeAt [1, 1, 0, 1, 0, 0] (bodyOf Try.f45)), slices_EqualFunc_api_Block_api_Block_api_Block_api_Block_code_Same_2_l4_k n)]) mixed Try.func45 (by kernel_rfl) (slices_EqualFunc_api_Block_api_Block_api_Block_api_Block_code_Same_2_ok n) (by kernel_rfl) (by kernel_rfl) (by kernel_rfl) ⟨slices_EqualFunc_api_Block_api_Block_api_Block_api_Block_code_Same_2_l4_m n, trivial⟩ (fun x => by kernel_rfl)
/-! 19 lockstep/code.Same -/
noncomputable def code_Same (n : Nat) (t0 : L_api_Func) (t1 : L_api_Func) : Option Bool :=
 if ((t0.2.1 == t1.2.1) = true) then
  (slices_Equal_int_int n t0.1 t1.1).bind fun r0 =>
   if (r0 = true) then
    (slices_EqualFunc_api_Block_api_Block_api_Block_api_Block_code_Same_2 n t0.2.2.1 t1.2.2.1 ((), ())).bind fun r1 =>
     some r1.1
   else some false
 else some false
noncomputable def code_Same_e (n : Nat) : Env := mkEnv T_ A_ N_ [(40, slices_Equal_int_int_c n), (39, code_Same_1_c n), (41, code_Same_2_c n), (45, slices_EqualFunc_api_Block_api_Block_api_Block_api_Block_code_Same_2_c n)] [] 28
noncomputable def code_Same_c (n : Nat) : Con := mkCon [(.val Y_api_Func), (.val Y_api_Func)] [(.val .bool)] (fun x => code_Same n x.1 x.2.1)
theorem code_Same_ok (n : Nat) : EnvOK Try.prog (code_Same_e n) := mkEnv_ok tabs ⟨⟨slices_Equal_int_int_m n, fok40⟩, ⟨code_Same_1_m n, fok39⟩, ⟨code_Same_2_m n, fok41⟩, ⟨slices_EqualFunc_api_Block_api_Block_api_Block_api_Block_code_Same_2_m n, fok45⟩, trivial⟩
theorem code_Same_m (n : Nat) : Meets Try.prog 19 (code_Same_c n) :=
 con_meets (l := []) mixed Try.func19 (by kernel_rfl) (code_Same_ok n) (by kernel_rfl) (by kernel_rfl) (by kernel_rfl) trivial (fun x => by kernel_rfl)
/-! 5 lockstep/locksteplaw04.CodeTells -/
noncomputable def locksteplaw04_CodeTells (n : Nat) (t0 : L_api_Func) : Option Bool :=
 (locksteplaw04_awake n).bind fun r0 =>
  if ((!r0) = true) then
   some false
  else (lockstepref04_Small n t0).bind fun r1 =>
   if ((!r1) = true) then
    some true
   else (code_Encode n t0).bind fun r2 =>
    (code_May n t0).bind fun r3 =>
     (lockstepref04_May n t0).bind fun r4 =>
      if ((r3 != r4) = false) then
       if ((r3 != r4) = false) then
        (code_Size n t0).bind fun r5 =>
         if ((r3 != r4) = false) then
          if ((r3 != r4) = false) then
           (lockstepref04_Size n t0).bind fun r6 =>
            if ((r3 != r4) = false) then
             if ((r3 != r4) = true) then
              some false
             else if ((r5 != r6) = false) then
              if ((r5 != r6) = false) then
               if ((r5 != r6) = false) then
                (lockstepref04_Encode n t0).bind fun r7 =>
                 if ((r5 != r6) = false) then
                  (lockstepref02_Same n r2 r7).bind fun r8 =>
                   if ((r5 != r6) = false) then
                    if ((r5 != r6) = true) then
                     some false
                    else if ((!r8) = true) then
                     some false
                    else (lockstepref04_May n t0).bind fun r9 =>
                     if ((!r9) = true) then
                      some ((r2.length : Int) == 0)
                     else (code_Decode n r2).bind fun r10 =>
                      if ((r10.2 == 0) = true) then
                       (lockstepref04_Same n r10.1 t0).bind fun r11 =>
                        if (r11 = true) then
                         (code_Same n r10.1 t0).bind fun r12 =>
                          some r12
                        else some false
                      else some false
                   else if ((r5 != r6) = true) then
                    some false
                   else none
                 else if ((r5 != r6) = false) then
                  none
                 else if ((r5 != r6) = true) then
                  some false
                 else none
               else if ((r5 != r6) = false) then
                none
               else if ((r5 != r6) = false) then
                none
               else if ((r5 != r6) = true) then
                some false
               else none
              else if ((r5 != r6) = false) then
               none
              else if ((r5 != r6) = false) then
               none
              else if ((r5 != r6) = false) then
               none
              else if ((r5 != r6) = true) then
               some false
              else none
             else if ((r5 != r6) = false) then
              if ((r5 != r6) = false) then
               (lockstepref04_Encode n t0).bind fun r7 =>
                if ((r5 != r6) = false) then
                 none
                else if ((r5 != r6) = false) then
                 none
                else if ((r5 != r6) = true) then
                 some false
                else none
              else if ((r5 != r6) = false) then
               none
              else if ((r5 != r6) = false) then
               none
              else if ((r5 != r6) = true) then
               some false
              else none
             else if ((r5 != r6) = false) then
              none
             else if ((r5 != r6) = false) then
              none
             else if ((r5 != r6) = false) then
              none
             else if ((r5 != r6) = true) then
              some false
             else none
            else if ((r3 != r4) = true) then
             some false
            else none
          else if ((r3 != r4) = false) then
           none
          else if ((r3 != r4) = true) then
           some false
          else none
         else if ((r3 != r4) = false) then
          none
         else if ((r3 != r4) = false) then
          none
         else if ((r3 != r4) = true) then
          some false
         else none
       else if ((r3 != r4) = false) then
        if ((r3 != r4) = false) then
         (lockstepref04_Size n t0).bind fun r5 =>
          if ((r3 != r4) = false) then
           none
          else if ((r3 != r4) = true) then
           some false
          else none
        else if ((r3 != r4) = false) then
         none
        else if ((r3 != r4) = true) then
         some false
        else none
       else if ((r3 != r4) = false) then
        none
       else if ((r3 != r4) = false) then
        none
       else if ((r3 != r4) = true) then
        some false
       else none
      else if ((r3 != r4) = false) then
       none
      else if ((r3 != r4) = false) then
       if ((r3 != r4) = false) then
        (lockstepref04_Size n t0).bind fun r5 =>
         if ((r3 != r4) = false) then
          none
         else if ((r3 != r4) = true) then
          some false
         else none
       else if ((r3 != r4) = false) then
        none
       else if ((r3 != r4) = true) then
        some false
       else none
      else if ((r3 != r4) = false) then
       none
      else if ((r3 != r4) = false) then
       none
      else if ((r3 != r4) = true) then
       some false
      else none
noncomputable def locksteplaw04_CodeTells_e (n : Nat) : Env := mkEnv T_ A_ N_ [(14, code_Size_c n), (12, code_Decode_c n), (11, code_May_c n), (10, code_Encode_c n), (13, lockstepref02_Same_c n), (8, locksteplaw04_awake_c n), (9, lockstepref04_Small_c n), (16, lockstepref04_Size_c n), (15, lockstepref04_May_c n), (17, lockstepref04_Encode_c n), (18, lockstepref04_Same_c n), (19, code_Same_c n)] [] 55
noncomputable def locksteplaw04_CodeTells_c (n : Nat) : Con := mkCon [(.val Y_api_Func)] [(.val .bool)] (fun x => locksteplaw04_CodeTells n x.1)
theorem locksteplaw04_CodeTells_ok (n : Nat) : EnvOK Try.prog (locksteplaw04_CodeTells_e n) := mkEnv_ok tabs ⟨⟨code_Size_m n, fok14⟩, ⟨code_Decode_m n, fok12⟩, ⟨code_May_m n, fok11⟩, ⟨code_Encode_m n, fok10⟩, ⟨lockstepref02_Same_m n, fok13⟩, ⟨locksteplaw04_awake_m n, fok8⟩, ⟨lockstepref04_Small_m n, fok9⟩, ⟨lockstepref04_Size_m n, fok16⟩, ⟨lockstepref04_May_m n, fok15⟩, ⟨lockstepref04_Encode_m n, fok17⟩, ⟨lockstepref04_Same_m n, fok18⟩, ⟨code_Same_m n, fok19⟩, trivial⟩
theorem locksteplaw04_CodeTells_m (n : Nat) : Meets Try.prog 5 (locksteplaw04_CodeTells_c n) :=
 con_meets (l := []) mixed Try.func5 (by kernel_rfl) (locksteplaw04_CodeTells_ok n) (by kernel_rfl) (by kernel_rfl) (by kernel_rfl) trivial (fun x => by kernel_rfl)
/-! 6 lockstep/locksteplaw04.CodeSame -/
noncomputable def locksteplaw04_CodeSame (n : Nat) (t0 : L_api_Func) (t1 : L_api_Func) : Option Bool :=
 (locksteplaw04_awake n).bind fun r0 =>
  if ((!r0) = true) then
   some false
  else (lockstepref04_Small n t0).bind fun r1 =>
   if ((!r1) = false) then
    (lockstepref04_Small n t1).bind fun r2 =>
     if ((!r2) = true) then
      some true
     else (code_Same n t0 t1).bind fun r3 =>
      (lockstepref04_Same n t0 t1).bind fun r4 =>
       if ((r3 != r4) = false) then
        (code_Same n t0 t0).bind fun r5 =>
         if ((!r5) = true) then
          some false
         else (lockstepref04_May n t0).bind fun r6 =>
          if ((!r6) = false) then
           if ((!r6) = false) then
            (lockstepref04_May n t1).bind fun r7 =>
             if ((!r6) = false) then
              if ((!r6) = true) then
               some true
              else if ((!r7) = false) then
               if ((!r7) = false) then
                if ((!r7) = false) then
                 (code_Encode n t0).bind fun r8 =>
                  if ((!r7) = false) then
                   if ((!r7) = false) then
                    (code_Encode n t1).bind fun r9 =>
                     if ((!r7) = false) then
                      (lockstepref02_Same n r8 r9).bind fun r10 =>
                       if ((!r7) = false) then
                        if ((!r7) = true) then
                         some true
                        else some (r3 == r10)
                       else if ((!r7) = true) then
                        some true
                       else none
                     else if ((!r7) = false) then
                      none
                     else if ((!r7) = true) then
                      some true
                     else none
                   else if ((!r7) = false) then
                    none
                   else if ((!r7) = false) then
                    none
                   else if ((!r7) = true) then
                    some true
                   else none
                  else if ((!r7) = false) then
                   none
                  else if ((!r7) = false) then
                   none
                  else if ((!r7) = false) then
                   none
                  else if ((!r7) = true) then
                   some true
                  else none
                else if ((!r7) = false) then
                 if ((!r7) = false) then
                  (code_Encode n t1).bind fun r8 =>
                   if ((!r7) = false) then
                    none
                   else if ((!r7) = false) then
                    none
                   else if ((!r7) = true) then
                    some true
                   else none
                 else if ((!r7) = false) then
                  none
                 else if ((!r7) = false) then
                  none
                 else if ((!r7) = true) then
                  some true
                 else none
                else if ((!r7) = false) then
                 none
                else if ((!r7) = false) then
                 none
                else if ((!r7) = false) then
                 none
                else if ((!r7) = true) then
                 some true
                else none
               else if ((!r7) = false) then
                none
               else if ((!r7) = false) then
                if ((!r7) = false) then
                 (code_Encode n t1).bind fun r8 =>
                  if ((!r7) = false) then
                   none
                  else if ((!r7) = false) then
                   none
                  else if ((!r7) = true) then
                   some true
                  else none
                else if ((!r7) = false) then
                 none
                else if ((!r7) = false) then
                 none
                else if ((!r7) = true) then
                 some true
                else none
               else if ((!r7) = false) then
                none
               else if ((!r7) = false) then
                none
               else if ((!r7) = false) then
                none
               else if ((!r7) = true) then
                some true
               else none
              else if ((!r7) = false) then
               if ((!r7) = false) then
                (code_Encode n t0).bind fun r8 =>
                 if ((!r7) = false) then
                  if ((!r7) = false) then
                   (code_Encode n t1).bind fun r9 =>
                    if ((!r7) = false) then
                     (lockstepref02_Same n r8 r9).bind fun r10 =>
                      if ((!r7) = false) then
                       none
                      else if ((!r7) = true) then
                       some true
                      else none
                    else if ((!r7) = false) then
                     none
                    else if ((!r7) = true) then
                     some true
                    else none
                  else if ((!r7) = false) then
                   none
                  else if ((!r7) = false) then
                   none
                  else if ((!r7) = true) then
                   some true
                  else none
                 else if ((!r7) = false) then
                  none
                 else if ((!r7) = false) then
                  none
                 else if ((!r7) = false) then
                  none
                 else if ((!r7) = true) then
                  some true
                 else none
               else if ((!r7) = false) then
                if ((!r7) = false) then
                 (code_Encode n t1).bind fun r8 =>
                  if ((!r7) = false) then
                   none
                  else if ((!r7) = false) then
                   none
                  else if ((!r7) = true) then
                   some true
                  else none
                else if ((!r7) = false) then
                 none
                else if ((!r7) = false) then
                 none
                else if ((!r7) = true) then
                 some true
                else none
               else if ((!r7) = false) then
                none
               else if ((!r7) = false) then
                none
               else if ((!r7) = false) then
                none
               else if ((!r7) = true) then
                some true
               else none
              else if ((!r7) = false) then
               none
              else if ((!r7) = false) then
               if ((!r7) = false) then
                (code_Encode n t1).bind fun r8 =>
                 if ((!r7) = false) then
                  none
                 else if ((!r7) = false) then
                  none
                 else if ((!r7) = true) then
                  some true
                 else none
               else if ((!r7) = false) then
                none
               else if ((!r7) = false) then
                none
               else if ((!r7) = true) then
                some true
               else none
              else if ((!r7) = false) then
               none
              else if ((!r7) = false) then
               none
              else if ((!r7) = false) then
               none
              else if ((!r7) = true) then
               some true
              else none
             else if ((!r6) = true) then
              some true
             else none
           else if ((!r6) = false) then
            none
           else if ((!r6) = true) then
            some true
           else none
          else if ((!r6) = false) then
           none
          else if ((!r6) = false) then
           none
          else if ((!r6) = true) then
           some true
          else none
       else some false
   else some true
noncomputable def locksteplaw04_CodeSame_e (n : Nat) : Env := mkEnv T_ A_ N_ [(10, code_Encode_c n), (13, lockstepref02_Same_c n), (8, locksteplaw04_awake_c n), (9, lockstepref04_Small_c n), (15, lockstepref04_May_c n), (18, lockstepref04_Same_c n), (19, code_Same_c n)] [] 47
noncomputable def locksteplaw04_CodeSame_c (n : Nat) : Con := mkCon [(.val Y_api_Func), (.val Y_api_Func)] [(.val .bool)] (fun x => locksteplaw04_CodeSame n x.1 x.2.1)
theorem locksteplaw04_CodeSame_ok (n : Nat) : EnvOK Try.prog (locksteplaw04_CodeSame_e n) := mkEnv_ok tabs ⟨⟨code_Encode_m n, fok10⟩, ⟨lockstepref02_Same_m n, fok13⟩, ⟨locksteplaw04_awake_m n, fok8⟩, ⟨lockstepref04_Small_m n, fok9⟩, ⟨lockstepref04_May_m n, fok15⟩, ⟨lockstepref04_Same_m n, fok18⟩, ⟨code_Same_m n, fok19⟩, trivial⟩
theorem locksteplaw04_CodeSame_m (n : Nat) : Meets Try.prog 6 (locksteplaw04_CodeSame_c n) :=
 con_meets (l := []) mixed Try.func6 (by kernel_rfl) (locksteplaw04_CodeSame_ok n) (by kernel_rfl) (by kernel_rfl) (by kernel_rfl) trivial (fun x => by kernel_rfl)
/-! 7 lockstep/locksteplaw04.CodeTurned -/
noncomputable def locksteplaw04_CodeTurned (n : Nat) (t0 : L_api_Func) (t1 : Int) (t2 : Int) : Option Bool :=
 (locksteplaw04_awake n).bind fun r0 =>
  if ((!r0) = true) then
   some false
  else (lockstepref04_Small n t0).bind fun r1 =>
   if ((!r1) = true) then
    some true
   else (code_Encode n t0).bind fun r2 =>
    if (((r2.length : Int) == 0) = true) then
     some true
    else if (([] ++ r2).length ≤ Ev.most) then
     if ((([] ++ r2).length : Int) ≠ 0) then
      if ((0 ≤ (Int.tmod (IntKind.wrap .i64 t1) (([] ++ r2).length : Int))) ∧ ((Int.tmod (IntKind.wrap .i64 t1) (([] ++ r2).length : Int)) < (([] ++ r2).length : Int))) then
       if ((0 ≤ (Int.tmod (IntKind.wrap .i64 t1) (([] ++ r2).length : Int))) ∧ ((Int.tmod (IntKind.wrap .i64 t1) (([] ++ r2).length : Int)) < (([] ++ r2).length : Int))) then
        (code_Decode n (([] ++ r2).set ((Int.tmod (IntKind.wrap .i64 t1) (([] ++ r2).length : Int)).toNat) (IntKind.wrap .u8 ((BitVec.toNat ((BitVec.ofInt 8 (([] ++ r2).getD ((Int.tmod (IntKind.wrap .i64 t1) (([] ++ r2).length : Int)).toNat) 0)) ^^^ (BitVec.ofInt 8 t2))) : Int)))).bind fun r3 =>
         if ((t2 == 0) = true) then
          if ((r3.2 == 0) = true) then
           (code_Same n r3.1 t0).bind fun r4 =>
            some r4
          else some false
         else if ((r3.2 != 0) = false) then
          (code_Same n r3.1 t0).bind fun r4 =>
           if ((!r4) = true) then
            (code_Encode n r3.1).bind fun r5 =>
             (lockstepref02_Same n r5 (([] ++ r2).set ((Int.tmod (IntKind.wrap .i64 t1) (([] ++ r2).length : Int)).toNat) (IntKind.wrap .u8 ((BitVec.toNat ((BitVec.ofInt 8 (([] ++ r2).getD ((Int.tmod (IntKind.wrap .i64 t1) (([] ++ r2).length : Int)).toNat) 0)) ^^^ (BitVec.ofInt 8 t2))) : Int)))).bind fun r6 =>
              some r6
           else some false
         else some true
       else none
      else none
     else none
    else none
noncomputable def locksteplaw04_CodeTurned_e (n : Nat) : Env := mkEnv T_ A_ N_ [(12, code_Decode_c n), (10, code_Encode_c n), (13, lockstepref02_Same_c n), (8, locksteplaw04_awake_c n), (9, lockstepref04_Small_c n), (19, code_Same_c n)] [] 67
noncomputable def locksteplaw04_CodeTurned_c (n : Nat) : Con := mkCon [(.val Y_api_Func), (.val (.int .u16)), (.val (.int .u8))] [(.val .bool)] (fun x => locksteplaw04_CodeTurned n x.1 x.2.1 x.2.2.1)
theorem locksteplaw04_CodeTurned_ok (n : Nat) : EnvOK Try.prog (locksteplaw04_CodeTurned_e n) := mkEnv_ok tabs ⟨⟨code_Decode_m n, fok12⟩, ⟨code_Encode_m n, fok10⟩, ⟨lockstepref02_Same_m n, fok13⟩, ⟨locksteplaw04_awake_m n, fok8⟩, ⟨lockstepref04_Small_m n, fok9⟩, ⟨code_Same_m n, fok19⟩, trivial⟩
theorem locksteplaw04_CodeTurned_m (n : Nat) : Meets Try.prog 7 (locksteplaw04_CodeTurned_c n) :=
 con_meets (l := []) mixed Try.func7 (by kernel_rfl) (locksteplaw04_CodeTurned_ok n) (by kernel_rfl) (by kernel_rfl) (by kernel_rfl) trivial (fun x => by kernel_rfl)
end Go.PrS
