/- Printed by a program of this session (wip/tools/op.py, over the kit's print program): Go functions as plain Lean functions, each with a proof that the call answers so. Conditions: each theorem's own. -/
import Derived.Test.YtokfaaemhniodaaQx0
import Derived.Test.YtokfaaemhniodaaQx2
namespace Go.Proofs.Ytokfaaemhniodaa.Q
open Go.Proofs.YtokfaaemhniodaaH
open Go.RowKit Go.Proofs.YtokfaaemhniodaaW.PrintWords Go.Proofs.YtokfaaemhniodaaW.PrintLast Go.Proofs.YtokfaaemhniodaaW.PrintMore
attribute [local go_sem] max2_int min2_int max_two min_two max_three min_three max_four min_four   -- for this text's walks alone
set_option linter.unusedVariables false
set_option linter.unusedSimpArgs false

/-! ### num_List: function 19 -/
def num_List.l0 : Nat → List Int → Int → List Int → Int → Int → Option (List Int × Int × Int)
  | 0, _, _, _, _, _ => none
  | k + 1, x0, x8, x10, x33, x34 => if x34 < x33 then (if 0 ≤ x8 then (if x8 ≤ (x0.length : Int) then ((num_Get.f k (x0.drop (x8 : Int).toNat)).bind fun bt112 => (if bt112.2.2 = 0 then (if bt112.1 > 2147483647 then (some (([] : List Int), 0, 4)) else (if x10.length < 17592186044416 then (num_List.l0 k x0 (wrap64 (x8 + bt112.2.1)) (x10 ++ [wrap64 (bt112.1)]) x33 (IntKind.u64.wrap (x34 + 1))) else (none))) else (some (([] : List Int), 0, bt112.2.2)))) else (none)) else (none)) else (some (x10, x8, 0))
def num_List.f (k : Nat) (l0 : List Int) (a1 : Int) : Option (List Int × Int × Int) := (num_Get.f k l0).bind fun bt108 => (if bt108.2.2 = 0 then (if a1 < 0 then (some (([] : List Int), 0, 4)) else (if bt108.1 > (IntKind.u64.wrap (a1)) then (some (([] : List Int), 0, 4)) else (num_List.l0 k l0 bt108.2.1 ([] : List Int) bt108.1 0))) else (some (([] : List Int), 0, bt108.2.2)))
theorem num_List.mono_l : ∀ k, (∀ y0 y1 y2 y3 y4, LeO (num_List.l0 k y0 y1 y2 y3 y4) (num_List.l0 (k + 1) y0 y1 y2 y3 y4))
  | 0 => fun _ _ _ _ _ r h => by simp [num_List.l0] at h
  | k + 1 => by
    have ih0 := num_List.mono_l k
    · intro y0 y1 y2 y3 y4
      unfold num_List.l0
      repeat' first
      | (with_reducible exact ih0 _ _ _ _ _)
      | (with_reducible exact num_Get.mono _ _)
      | (with_reducible exact LeO.refl _)
      | (with_reducible exact LeO.none _)
      | (with_reducible refine LeO.ite ?_ ?_)
      | (with_reducible refine LeO.bind ?_ (fun _ => ?_))
      | exact ih0 _ _ _ _ _
      | exact num_Get.mono _ _
      | exact LeO.none _
      | refine LeO.ite ?_ ?_
      | refine LeO.bind ?_ (fun _ => ?_)
theorem num_List.mono : ∀ a0 a1 k, LeO (num_List.f k a0 a1) (num_List.f (k + 1) a0 a1) := by
  intro a0 a1 k
  have ih0 := num_List.mono_l k
  unfold num_List.f
  repeat' first
      | (with_reducible exact ih0 _ _ _ _ _)
      | (with_reducible exact num_Get.mono _ _)
      | (with_reducible exact LeO.refl _)
      | (with_reducible exact LeO.none _)
      | (with_reducible refine LeO.ite ?_ ?_)
      | (with_reducible refine LeO.bind ?_ (fun _ => ?_))
      | exact ih0 _ _ _ _ _
      | exact num_Get.mono _ _
      | exact LeO.none _
      | refine LeO.ite ?_ ?_
      | refine LeO.bind ?_ (fun _ => ?_)
set_option maxHeartbeats 8000000 in
set_option maxRecDepth 100000 in
theorem num_List.calls (k : Nat) (A0 : Option Addr) (c0 : Nat) (l0 : List Int) (a1 : Int) (r1 : List Int) (r2 : Int) (r3 : Int) (w : World) (hr0 : Kd.C (Kd.int .u8) w A0 l0.length l0) (hc0 : l0.length ≤ c0) (h : num_List.f k l0 a1 = some (r1, r2, r3)) :
    Calls Try.prog 19 #[.slice A0 l0.length c0, .int .i64 a1] w fun e w' => ∃ v0_ : Value, e = .returned (.tuple #[v0_, .int .i64 r2, .int .i64 r3]) ∧ Kd.R (Kd.int .i64) 3 w' w.heap.size (fun _ => True) v0_ r1 ∧ Below w.heap.size w w' := by
  have HR0 := Aside0.mk hr0
  have HC0 := Aside0.mk hc0
  clear hr0 hc0
  have HB := Aside0.mk (Below.refl w.heap.size w)
  have H : ((num_Get.f k l0).bind fun bt108 => (if bt108.2.2 = 0 then (if a1 < 0 then (some (([] : List Int), 0, 4)) else (if bt108.1 > (IntKind.u64.wrap (a1)) then (some (([] : List Int), 0, 4)) else (num_List.l0 k l0 bt108.2.1 ([] : List Int) bt108.1 0))) else (some (([] : List Int), 0, bt108.2.2)))) = some (r1, r2, r3) := h
  clear h
  replace H := Option.bind_eq_some_iff.mp H
  obtain ⟨⟨t108, t109, t110⟩, A30, H⟩ := H
  replace H : (if t110 = 0 then (if a1 < 0 then (some (([] : List Int), 0, 4)) else (if t108 > (IntKind.u64.wrap (a1)) then (some (([] : List Int), 0, 4)) else (num_List.l0 k l0 t109 ([] : List Int) t108 0))) else (some (([] : List Int), 0, t110))) = some (r1, r2, r3) := H
  have A3 := Aside0.mk A30
  clear A30
  by_cases c4 : t110 = 0
  · rw [if_pos c4] at H
    have c4b0 : (t110 == 0) = true := beq_iff_eq.mpr c4
    have c4b1 : (t110 != 0) = false := bne_eq_false_iff_eq.mpr c4
    clear c4
    by_cases c5 : a1 < 0
    · rw [if_pos c5] at H
      have c5b0 : decide (a1 < 0) = true := decide_eq_true c5
      clear c5
      simp only [Option.some.injEq, Prod.mk.injEq] at H
      obtain ⟨rfl, rfl, rfl⟩ := H
      go_enter Try.func19, Try.ntmps19
      go_wp2_with (first | ((with_reducible refine gate_callee (f := 14) rfl ?_); refine goesL_ (some 16) rfl rfl Try.func14 (by kernel_rfl) rfl #[.slice A0 l0.length c0] rfl (by (try simp only [List.map_toArray, List.map_cons, List.map_nil]); first | done | rfl | (simp only [List.length_drop, List.length_take]; rfl)) ?_; (with_reducible refine (num_Get.calls k _ _ l0 t108 t109 t110 _ ?side1 ?side2 A3.out).mono ?_); (case side1 => repeat (first | exact HR0.out | (with_reducible refine Kd.C_alloc ?_ _) | (with_reducible refine Kd.C_drewN ?_ _) | (with_reducible refine Kd.C_drew ?_))); (case side2 => exact HC0.out); rintro e w' ⟨rfl, ⟨nd, rfl⟩⟩; refine ⟨_, rfl, ?_⟩))
      go_ret3
      exact ⟨_, by first | rfl | (simp [errW_none, errW_some] <;> rfl) | (simp [*, errW_none, errW_some] <;> rfl), by first | exact Kd.R_nil _ _ _ _ _ | exact Kd.N_nil _ _ _ _ _ | exact Kd.V_nil _ _ _ _ _ | exact Kd.Q_nil _ _ _ _ _ | exact Kd.S_nil _ _ _ _ _, by repeat (first | (with_reducible first | exact HB.out | apply below_alloc | apply pw_below_drewN | apply below_drew1) | exact HB.out)⟩
    · rw [if_neg c5] at H
      have c5b0 : decide (a1 < 0) = false := decide_eq_false c5
      clear c5
      by_cases c6 : t108 > (IntKind.u64.wrap (a1))
      · rw [if_pos c6] at H
        have c6b0 : decide ((IntKind.u64.wrap (a1)) < t108) = true := decide_eq_true c6
        clear c6
        simp only [Option.some.injEq, Prod.mk.injEq] at H
        obtain ⟨rfl, rfl, rfl⟩ := H
        go_enter Try.func19, Try.ntmps19
        go_wp2_with (first | ((with_reducible refine gate_callee (f := 14) rfl ?_); refine goesL_ (some 16) rfl rfl Try.func14 (by kernel_rfl) rfl #[.slice A0 l0.length c0] rfl (by (try simp only [List.map_toArray, List.map_cons, List.map_nil]); first | done | rfl | (simp only [List.length_drop, List.length_take]; rfl)) ?_; (with_reducible refine (num_Get.calls k _ _ l0 t108 t109 t110 _ ?side1 ?side2 A3.out).mono ?_); (case side1 => repeat (first | exact HR0.out | (with_reducible refine Kd.C_alloc ?_ _) | (with_reducible refine Kd.C_drewN ?_ _) | (with_reducible refine Kd.C_drew ?_))); (case side2 => exact HC0.out); rintro e w' ⟨rfl, ⟨nd, rfl⟩⟩; refine ⟨_, rfl, ?_⟩))
        go_ret3
        exact ⟨_, by first | rfl | (simp [errW_none, errW_some] <;> rfl) | (simp [*, errW_none, errW_some] <;> rfl), by first | exact Kd.R_nil _ _ _ _ _ | exact Kd.N_nil _ _ _ _ _ | exact Kd.V_nil _ _ _ _ _ | exact Kd.Q_nil _ _ _ _ _ | exact Kd.S_nil _ _ _ _ _, by repeat (first | (with_reducible first | exact HB.out | apply below_alloc | apply pw_below_drewN | apply below_drew1) | exact HB.out)⟩
      · rw [if_neg c6] at H
        have c6b0 : decide ((IntKind.u64.wrap (a1)) < t108) = false := decide_eq_false c6
        clear c6
        have H' := Aside0.mk H
        clear H
        go_enter Try.func19, Try.ntmps19
        go_wp2_with (first | ((with_reducible refine gate_callee (f := 14) rfl ?_); refine goesL_ (some 16) rfl rfl Try.func14 (by kernel_rfl) rfl #[.slice A0 l0.length c0] rfl (by (try simp only [List.map_toArray, List.map_cons, List.map_nil]); first | done | rfl | (simp only [List.length_drop, List.length_take]; rfl)) ?_; (with_reducible refine (num_Get.calls k _ _ l0 t108 t109 t110 _ ?side1 ?side2 A3.out).mono ?_); (case side1 => repeat (first | exact HR0.out | (with_reducible refine Kd.C_alloc ?_ _) | (with_reducible refine Kd.C_drewN ?_ _) | (with_reducible refine Kd.C_drew ?_))); (case side2 => exact HC0.out); rintro e w' ⟨rfl, ⟨nd, rfl⟩⟩; refine ⟨_, rfl, ?_⟩))
        go_loopg [8, 10, 34] k (fun kq v8 v10 v34 w' => ∃ (x8_1 : Int) (x10_1 : List Int) (x34_1 : Int), v8 = .int .i64 x8_1 ∧ v34 = .int .u64 x34_1 ∧ Aside0 (num_List.l0 kq l0 x8_1 x10_1 t108 x34_1 = some (r1, r2, r3)) ∧ Aside0 (kq ≤ k) ∧ Aside0 (Kd.R (Kd.int .i64) 3 w' w.heap.size (fun _ => True) v10 x10_1) ∧ Aside0 (Below w.heap.size w w'))
        case atStart => exact ⟨(t109), (([] : List Int)), (0), (by first | rfl | (simp; done) | (simp [*]; done)), (by first | rfl | (simp; done) | (simp [*]; done)), H', ⟨Nat.le_refl _⟩, ⟨by first | exact Kd.R_nil _ _ _ _ _ | exact Kd.N_nil _ _ _ _ _ | exact Kd.V_nil _ _ _ _ _ | exact Kd.Q_nil _ _ _ _ _ | exact Kd.S_nil _ _ _ _ _⟩, ⟨by repeat (first | (with_reducible first | exact HB.out | apply below_alloc | apply pw_below_drewN | apply below_drew1) | exact HB.out)⟩⟩
        case round =>
          clear H'
          try clear c1
          try clear p2
          try clear c4
          try clear c4b0
          try clear c4b1
          try clear c5
          try clear c5b0
          try clear c6
          try clear c6b0
          obtain ⟨x8_1, x10_1, x34_1, rfl, rfl, HA, HK1, HO_10, HB⟩ := hrel
          cases gk with
          | zero => exact absurd HA.out (by simp [num_List.l0])
          | succ k1 =>
            have H := HA.out
            clear HA
            simp only [num_List.l0] at H
            by_cases c7 : x34_1 < t108
            · rw [if_pos c7] at H
              have c7b0 : decide (x34_1 < t108) = true := decide_eq_true c7
              clear c7
              by_cases c8 : 0 ≤ x8_1
              · rw [if_pos c8] at H
                have c8b0 := eq_true c8
                have c8b1 : decide (0 ≤ x8_1) = true := decide_eq_true c8
                clear c8
                by_cases c9 : x8_1 ≤ (l0.length : Int)
                · rw [if_pos c9] at H
                  have c9b0 := eq_true c9
                  have c9b1 : decide (x8_1 ≤ (l0.length : Int)) = true := decide_eq_true c9
                  clear c9
                  replace H := Option.bind_eq_some_iff.mp H
                  obtain ⟨⟨t112, t113, t114⟩, A100, H⟩ := H
                  replace H : (if t114 = 0 then (if t112 > 2147483647 then (some (([] : List Int), 0, 4)) else (if x10_1.length < 17592186044416 then (num_List.l0 k1 l0 (wrap64 (x8_1 + t113)) (x10_1 ++ [wrap64 (t112)]) t108 (IntKind.u64.wrap (x34_1 + 1))) else (none))) else (some (([] : List Int), 0, t114))) = some (r1, r2, r3) := H
                  have A10 := Aside0.mk A100
                  clear A100
                  by_cases c11 : t114 = 0
                  · rw [if_pos c11] at H
                    have c11b0 : (t114 == 0) = true := beq_iff_eq.mpr c11
                    have c11b1 : (t114 != 0) = false := bne_eq_false_iff_eq.mpr c11
                    clear c11
                    by_cases c12 : t112 > 2147483647
                    · rw [if_pos c12] at H
                      have c12b0 : decide (2147483647 < t112) = true := decide_eq_true c12
                      clear c12
                      simp only [Option.some.injEq, Prod.mk.injEq] at H
                      obtain ⟨rfl, rfl, rfl⟩ := H
                      obtain ⟨i013, hi013, _, hsz13, _⟩ := info_parts info5
                      obtain ⟨A13, hcut13, hA13, hC13⟩ := print_drop_of (P := Try.prog) (Value.int .u8) 0 23 5 .i64 Try.underlying23 hi013 hsz13 A0 c0 l0 x8_1 (of_decide_eq_true (by first | (with_reducible assumption) | assumption)) (of_decide_eq_true (by first | (with_reducible assumption) | assumption)) HC0.out
                      have HR111 := Aside0.mk (Kd.C_of_reads (h1 := fun _ => rfl) (hA13 _ (Kd.reads_of_C HR0.out)))
                      have HC111 := Aside0.mk hC13
                      clear hA13 hC13 hi013 hsz13
                      go_wp2_with (first | ((with_reducible refine gate_callee (f := 14) rfl ?_); refine goesL_ (some 40) rfl rfl Try.func14 (by kernel_rfl) rfl #[.slice A13 (l0.drop (x8_1 : Int).toNat).length (c0 - x8_1.toNat)] rfl (by (try simp only [List.map_toArray, List.map_cons, List.map_nil]); first | done | (rw [show (l0.drop (x8_1 : Int).toNat).length = (l0.length - x8_1.toNat) from List.length_drop] <;> rfl) | rfl | (simp only [List.length_drop, List.length_take]; rfl)) ?_; (with_reducible refine (num_Get.calls k1 _ _ (l0.drop (x8_1 : Int).toNat) t112 t113 t114 _ ?side1 ?side2 A10.out).mono ?_); (case side1 => repeat (first | exact (Kd.C_below HR111.out HB.out) | (with_reducible refine Kd.C_alloc ?_ _) | (with_reducible refine Kd.C_drewN ?_ _) | (with_reducible refine Kd.C_drew ?_))); (case side2 => exact HC111.out); rintro e w' ⟨rfl, ⟨nd, rfl⟩⟩; refine ⟨_, rfl, ?_⟩))
                      go_ret3
                      exact ⟨_, by first | rfl | (simp [errW_none, errW_some] <;> rfl) | (simp [*, errW_none, errW_some] <;> rfl), by first | exact Kd.R_nil _ _ _ _ _ | exact Kd.N_nil _ _ _ _ _ | exact Kd.V_nil _ _ _ _ _ | exact Kd.Q_nil _ _ _ _ _ | exact Kd.S_nil _ _ _ _ _, by repeat (first | (with_reducible first | exact HB.out | apply below_alloc | apply pw_below_drewN | apply below_drew1) | exact HB.out)⟩
                    · rw [if_neg c12] at H
                      have c12b0 : decide (2147483647 < t112) = false := decide_eq_false c12
                      clear c12
                      by_cases c14 : x10_1.length < 17592186044416
                      · rw [if_pos c14] at H
                        have LMc14 := Aside0.mk c14
                        clear c14
                        obtain ⟨y115, hy115⟩ : ∃ y_ : List Int, y_ = (x10_1 ++ [wrap64 (t112)]) := ⟨_, rfl⟩
                        replace H : (num_List.l0 k1 l0 (wrap64 (x8_1 + t113)) y115 t108 (IntKind.u64.wrap (x34_1 + 1))) = some (r1, r2, r3) := by first | (rw [hy115]; with_reducible exact H) | (have H2_ := (Option.bind_some _ _).symm.trans H; rw [hy115]; with_reducible exact H2_) | (have H2_ := (Option.bind_some _ _).symm.trans H; with_reducible exact H2_) | with_reducible exact H | (rw [hy115]; exact H) | exact H
                        have Ny115 := Aside0.mk hy115
                        clear hy115
                        have H' := Aside0.mk H
                        clear H
                        obtain ⟨i015, hi015, _, hsz15, _⟩ := info_parts info5
                        obtain ⟨A15, hcut15, hA15, hC15⟩ := print_drop_of (P := Try.prog) (Value.int .u8) 0 23 5 .i64 Try.underlying23 hi015 hsz15 A0 c0 l0 x8_1 (of_decide_eq_true (by first | (with_reducible assumption) | assumption)) (of_decide_eq_true (by first | (with_reducible assumption) | assumption)) HC0.out
                        have HR111 := Aside0.mk (Kd.C_of_reads (h1 := fun _ => rfl) (hA15 _ (Kd.reads_of_C HR0.out)))
                        have HC111 := Aside0.mk hC15
                        clear hA15 hC15 hi015 hsz15
                        go_wp2_with (first | ((with_reducible refine gate_callee (f := 14) rfl ?_); refine goesL_ (some 40) rfl rfl Try.func14 (by kernel_rfl) rfl #[.slice A15 (l0.drop (x8_1 : Int).toNat).length (c0 - x8_1.toNat)] rfl (by (try simp only [List.map_toArray, List.map_cons, List.map_nil]); first | done | (rw [show (l0.drop (x8_1 : Int).toNat).length = (l0.length - x8_1.toNat) from List.length_drop] <;> rfl) | rfl | (simp only [List.length_drop, List.length_take]; rfl)) ?_; (with_reducible refine (num_Get.calls k1 _ _ (l0.drop (x8_1 : Int).toNat) t112 t113 t114 _ ?side1 ?side2 A10.out).mono ?_); (case side1 => repeat (first | exact (Kd.C_below HR111.out HB.out) | (with_reducible refine Kd.C_alloc ?_ _) | (with_reducible refine Kd.C_drewN ?_ _) | (with_reducible refine Kd.C_drew ?_))); (case side2 => exact HC111.out); rintro e w' ⟨rfl, ⟨nd, rfl⟩⟩; refine ⟨_, rfl, ?_⟩) | ((with_reducible refine gate_builtin (b := .append) (xs := #[.tmp 49, .tmp 52]) rfl ?_); at_builtin; refine Kd.R_append (Kd.int .i64) (w0 := w) w.heap.size rfl (.tmp 49) (.tmp 52) 33 3 (.int .i64 0) 8 rfl Try.underlying33 info3 rfl (by decide) (by omega) u10 x10_1 (wrap64 (t112)) [.int .i64 (wrap64 (t112))] (fun _ => True) (fun _ => False) rfl rfl ?aP (fun _ hk => hk.elim) ?aF ?aO ?aB ?aS ?aL ?_; (case aP => exact rfl); (case aB => exact (by repeat (first | (with_reducible first | exact HB.out | apply below_alloc | apply pw_below_drewN | apply below_drew1) | exact HB.out))); (case aF => exact (fun _ _ => trivial)); (case aO => exact (by (with_reducible repeat (first | apply Kd.R_alloc | apply Kd.R_drewN | apply Kd.R_drew)); exact HO_10.out)); (case aS => exact (below_size (by repeat (first | (with_reducible first | exact HB.out | apply below_alloc | apply pw_below_drewN | apply below_drew1) | exact HB.out)))); (case aL => have := LMc14.out; omega); intro v116 w16 ho hb hg hat; rw [← Ny115.out] at ho; have n0_ := Aside0.mk (hb); have n1_ := Aside0.mk (ho); clear HB; clear HO_10; have HB := n0_; have HO117 := n1_; clear n0_ n1_; clear ho hb hg hat))
                        go_roundg k1
                        case measure => have := HK1.out; omega
                        case rel => exact ⟨(wrap64 (x8_1 + t113)), (y115), (IntKind.u64.wrap (x34_1 + 1)), (by first | rfl | (simp; done) | (simp [*]; done)), (by first | rfl | (simp; done) | (simp [*]; done)), H', ⟨by have := HK1.out; omega⟩, ⟨by (with_reducible repeat (first | apply Kd.R_alloc | apply Kd.R_drewN | apply Kd.R_drew)); exact HO117.out⟩, ⟨by repeat (first | (with_reducible first | exact HB.out | apply below_alloc | apply pw_below_drewN | apply below_drew1) | exact HB.out)⟩⟩
                      · rw [if_neg c14] at H
                        exact absurd H (by simp)
                  · rw [if_neg c11] at H
                    have c11b0 : (t114 == 0) = false := beq_eq_false_iff_ne.mpr c11
                    have c11b1 : (t114 != 0) = true := bne_iff_ne.mpr c11
                    simp only [Option.some.injEq, Prod.mk.injEq] at H
                    obtain ⟨rfl, rfl, rfl⟩ := H
                    obtain ⟨i017, hi017, _, hsz17, _⟩ := info_parts info5
                    obtain ⟨A17, hcut17, hA17, hC17⟩ := print_drop_of (P := Try.prog) (Value.int .u8) 0 23 5 .i64 Try.underlying23 hi017 hsz17 A0 c0 l0 x8_1 (of_decide_eq_true (by first | (with_reducible assumption) | assumption)) (of_decide_eq_true (by first | (with_reducible assumption) | assumption)) HC0.out
                    have HR111 := Aside0.mk (Kd.C_of_reads (h1 := fun _ => rfl) (hA17 _ (Kd.reads_of_C HR0.out)))
                    have HC111 := Aside0.mk hC17
                    clear hA17 hC17 hi017 hsz17
                    go_wp2_with (first | ((with_reducible refine gate_callee (f := 14) rfl ?_); refine goesL_ (some 40) rfl rfl Try.func14 (by kernel_rfl) rfl #[.slice A17 (l0.drop (x8_1 : Int).toNat).length (c0 - x8_1.toNat)] rfl (by (try simp only [List.map_toArray, List.map_cons, List.map_nil]); first | done | (rw [show (l0.drop (x8_1 : Int).toNat).length = (l0.length - x8_1.toNat) from List.length_drop] <;> rfl) | rfl | (simp only [List.length_drop, List.length_take]; rfl)) ?_; (with_reducible refine (num_Get.calls k1 _ _ (l0.drop (x8_1 : Int).toNat) t112 t113 t114 _ ?side1 ?side2 A10.out).mono ?_); (case side1 => repeat (first | exact (Kd.C_below HR111.out HB.out) | (with_reducible refine Kd.C_alloc ?_ _) | (with_reducible refine Kd.C_drewN ?_ _) | (with_reducible refine Kd.C_drew ?_))); (case side2 => exact HC111.out); rintro e w' ⟨rfl, ⟨nd, rfl⟩⟩; refine ⟨_, rfl, ?_⟩))
                    go_ret3
                    exact ⟨_, by first | rfl | (simp [errW_none, errW_some] <;> rfl) | (simp [*, errW_none, errW_some] <;> rfl), by first | exact Kd.R_nil _ _ _ _ _ | exact Kd.N_nil _ _ _ _ _ | exact Kd.V_nil _ _ _ _ _ | exact Kd.Q_nil _ _ _ _ _ | exact Kd.S_nil _ _ _ _ _, by repeat (first | (with_reducible first | exact HB.out | apply below_alloc | apply pw_below_drewN | apply below_drew1) | exact HB.out)⟩
                · rw [if_neg c9] at H
                  exact absurd H (by simp)
              · rw [if_neg c8] at H
                exact absurd H (by simp)
            · rw [if_neg c7] at H
              have c7b0 : decide (x34_1 < t108) = false := decide_eq_false c7
              clear c7
              simp only [Option.some.injEq, Prod.mk.injEq] at H
              obtain ⟨rfl, rfl, rfl⟩ := H
              go_wp2
              go_ret3
              exact ⟨_, by first | rfl | (simp [errW_none, errW_some] <;> rfl) | (simp [*, errW_none, errW_some] <;> rfl), by (with_reducible repeat (first | apply Kd.R_alloc | apply Kd.R_drewN | apply Kd.R_drew)); exact HO_10.out, by repeat (first | (with_reducible first | exact HB.out | apply below_alloc | apply pw_below_drewN | apply below_drew1) | exact HB.out)⟩
  · rw [if_neg c4] at H
    have c4b0 : (t110 == 0) = false := beq_eq_false_iff_ne.mpr c4
    have c4b1 : (t110 != 0) = true := bne_iff_ne.mpr c4
    simp only [Option.some.injEq, Prod.mk.injEq] at H
    obtain ⟨rfl, rfl, rfl⟩ := H
    go_enter Try.func19, Try.ntmps19
    go_wp2_with (first | ((with_reducible refine gate_callee (f := 14) rfl ?_); refine goesL_ (some 16) rfl rfl Try.func14 (by kernel_rfl) rfl #[.slice A0 l0.length c0] rfl (by (try simp only [List.map_toArray, List.map_cons, List.map_nil]); first | done | rfl | (simp only [List.length_drop, List.length_take]; rfl)) ?_; (with_reducible refine (num_Get.calls k _ _ l0 t108 t109 t110 _ ?side1 ?side2 A3.out).mono ?_); (case side1 => repeat (first | exact HR0.out | (with_reducible refine Kd.C_alloc ?_ _) | (with_reducible refine Kd.C_drewN ?_ _) | (with_reducible refine Kd.C_drew ?_))); (case side2 => exact HC0.out); rintro e w' ⟨rfl, ⟨nd, rfl⟩⟩; refine ⟨_, rfl, ?_⟩))
    go_ret3
    exact ⟨_, by first | rfl | (simp [errW_none, errW_some] <;> rfl) | (simp [*, errW_none, errW_some] <;> rfl), by first | exact Kd.R_nil _ _ _ _ _ | exact Kd.N_nil _ _ _ _ _ | exact Kd.V_nil _ _ _ _ _ | exact Kd.Q_nil _ _ _ _ _ | exact Kd.S_nil _ _ _ _ _, by repeat (first | (with_reducible first | exact HB.out | apply below_alloc | apply pw_below_drewN | apply below_drew1) | exact HB.out)⟩

end Go.Proofs.Ytokfaaemhniodaa.Q
