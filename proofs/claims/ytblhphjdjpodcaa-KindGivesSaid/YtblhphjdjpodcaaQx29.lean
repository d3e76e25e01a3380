/- Printed by a program of this session (wip/tools/op.py, over the kit's print program): Go functions as plain Lean functions, each with a proof that the call answers so. Conditions: each theorem's own. -/
import Derived.Test.YtblhphjdjpodcaaQx0
import Derived.Test.YtblhphjdjpodcaaQx3
import Derived.Test.YtblhphjdjpodcaaQx9
import Derived.Test.YtblhphjdjpodcaaQx10
import Derived.Test.YtblhphjdjpodcaaQx11
import Derived.Test.YtblhphjdjpodcaaQx12
import Derived.Test.YtblhphjdjpodcaaQx24
namespace Go.Proofs.Ytblhphjdjpodcaa.Q
open Go.Proofs.YtblhphjdjpodcaaH
open Go.RowKit Go.Proofs.YtblhphjdjpodcaaW.PrintWords Go.Proofs.YtblhphjdjpodcaaW.PrintLast Go.Proofs.YtblhphjdjpodcaaW.PrintMore
attribute [local go_sem] max2_int min2_int max_two min_two max_three min_three max_four min_four   -- for this text's walks alone
set_option linter.unusedVariables false
set_option linter.unusedSimpArgs false

/-! ### locksteplaw03_KindGives: function 7 -/
def locksteplaw03_KindGives.f (k : Nat) (a0_0 : Int) (a0_1 : Int) (a0_2 : Int) (a0_3 : Int) (l0_4 : List Int) (a0_5 : Int) : Option (Bool) := (locksteplaw03_awake.f k).bind fun t270 => (if t270 = true then (if (l0_4.length : Int) > 100 then (some true) else ((kind_Gives.f k a0_0 a0_1 a0_2 a0_3 l0_4 a0_5).bind fun bt271 => ((kind_May.f k a0_0 a0_1 a0_2 a0_3 l0_4 a0_5).bind fun t273 => (if t273 = true then (if a0_0 = 17 then (if ((bt271.1 == 0) == true) = true then (if ((bt271.2 == 0) == true) = true then (if ((a0_3 == 0) == true) = true then ((kind_Pure.f a0_0).bind fun t274 => (if t274 = true then (some false) else (some true))) else (some false)) else (some false)) else (some false)) else (if ((bt271.1 == 0) == (a0_0 == 19)) = true then (if ((bt271.2 == 0) == (a0_0 == 19)) = true then (if ((a0_3 == 0) == (a0_0 == 19)) = true then (if a0_0 = 19 then ((kind_Pure.f a0_0).bind fun t275 => (if t275 = true then (some false) else (some true))) else ((kind_Shape.f bt271.1 bt271.2).bind fun t276 => (some t276))) else (some false)) else (some false)) else (some false))) else (if bt271.1 = 0 then (if bt271.2 = 0 then ((kind_Takes.f k a0_0 a0_1 a0_2 a0_3 l0_4 a0_5).bind fun t277 => (some ((t277.length : Int) == 0))) else (some false)) else (some false)))))) else (some false))
theorem locksteplaw03_KindGives.mono : ∀ a0 a1 a2 a3 a4 a5 k, LeO (locksteplaw03_KindGives.f k a0 a1 a2 a3 a4 a5) (locksteplaw03_KindGives.f (k + 1) a0 a1 a2 a3 a4 a5) := by
 intro a0 a1 a2 a3 a4 a5 k
 unfold locksteplaw03_KindGives.f
 repeat' first
  | (with_reducible exact kind_Gives.mono _ _ _ _ _ _ _)
  | (with_reducible exact kind_May.mono _ _ _ _ _ _ _)
  | (with_reducible exact kind_Takes.mono _ _ _ _ _ _ _)
  | (with_reducible exact locksteplaw03_awake.mono _)
  | (with_reducible exact LeO.refl _)
  | (with_reducible exact LeO.none _)
  | (with_reducible refine LeO.ite ?_ ?_)
  | (with_reducible refine LeO.bind ?_ (fun _ => ?_))
  | exact kind_Gives.mono _ _ _ _ _ _ _
  | exact kind_May.mono _ _ _ _ _ _ _
  | exact kind_Takes.mono _ _ _ _ _ _ _
  | exact locksteplaw03_awake.mono _
  | exact LeO.none _
  | refine LeO.ite ?_ ?_
  | refine LeO.bind ?_ (fun _ => ?_)
set_option maxHeartbeats 8000000 in
set_option maxRecDepth 100000 in
theorem locksteplaw03_KindGives.calls (k : Nat) (a0_0 : Int) (a0_1 : Int) (a0_2 : Int) (a0_3 : Int) (A0_4 : Option Addr) (c0_4 : Nat) (l0_4 : List Int) (a0_5 : Int) (w : World) (hr0_4 : Kd.C (Kd.int .i64) w A0_4 l0_4.length l0_4) (hc0_4 : l0_4.length ≤ c0_4) (h : locksteplaw03_KindGives.f k a0_0 a0_1 a0_2 a0_3 l0_4 a0_5 = some true) :
 Calls Try.prog 7 #[.agg #[.int .i64 a0_0, .int .i64 a0_1, .int .i64 a0_2, .int .i64 a0_3, .slice A0_4 l0_4.length c0_4, .int .u64 a0_5]] w fun e w' => e = .returned (.bool true) ∧ Below w.heap.size w w' := by
 have hu27 := Try.underlying27
 have HR0_4 := Aside0.mk hr0_4
 have HC0_4 := Aside0.mk hc0_4
 clear hr0_4 hc0_4
 have HB := Aside0.mk (Below.refl w.heap.size w)
 have H : ((locksteplaw03_awake.f k).bind fun t270 => (if t270 = true then (if (l0_4.length : Int) > 100 then (some true) else ((kind_Gives.f k a0_0 a0_1 a0_2 a0_3 l0_4 a0_5).bind fun bt271 => ((kind_May.f k a0_0 a0_1 a0_2 a0_3 l0_4 a0_5).bind fun t273 => (if t273 = true then (if a0_0 = 17 then (if ((bt271.1 == 0) == true) = true then (if ((bt271.2 == 0) == true) = true then (if ((a0_3 == 0) == true) = true then ((kind_Pure.f a0_0).bind fun t274 => (if t274 = true then (some false) else (some true))) else (some false)) else (some false)) else (some false)) else (if ((bt271.1 == 0) == (a0_0 == 19)) = true then (if ((bt271.2 == 0) == (a0_0 == 19)) = true then (if ((a0_3 == 0) == (a0_0 == 19)) = true then (if a0_0 = 19 then ((kind_Pure.f a0_0).bind fun t275 => (if t275 = true then (some false) else (some true))) else ((kind_Shape.f bt271.1 bt271.2).bind fun t276 => (some t276))) else (some false)) else (some false)) else (some false))) else (if bt271.1 = 0 then (if bt271.2 = 0 then ((kind_Takes.f k a0_0 a0_1 a0_2 a0_3 l0_4 a0_5).bind fun t277 => (some ((t277.length : Int) == 0))) else (some false)) else (some false)))))) else (some false))) = some true := h
 clear h
 replace H := Option.bind_eq_some_iff.mp H
 obtain ⟨t270, A20, H⟩ := H
 replace H : (if t270 = true then (if (l0_4.length : Int) > 100 then (some true) else ((kind_Gives.f k a0_0 a0_1 a0_2 a0_3 l0_4 a0_5).bind fun bt271 => ((kind_May.f k a0_0 a0_1 a0_2 a0_3 l0_4 a0_5).bind fun t273 => (if t273 = true then (if a0_0 = 17 then (if ((bt271.1 == 0) == true) = true then (if ((bt271.2 == 0) == true) = true then (if ((a0_3 == 0) == true) = true then ((kind_Pure.f a0_0).bind fun t274 => (if t274 = true then (some false) else (some true))) else (some false)) else (some false)) else (some false)) else (if ((bt271.1 == 0) == (a0_0 == 19)) = true then (if ((bt271.2 == 0) == (a0_0 == 19)) = true then (if ((a0_3 == 0) == (a0_0 == 19)) = true then (if a0_0 = 19 then ((kind_Pure.f a0_0).bind fun t275 => (if t275 = true then (some false) else (some true))) else ((kind_Shape.f bt271.1 bt271.2).bind fun t276 => (some t276))) else (some false)) else (some false)) else (some false))) else (if bt271.1 = 0 then (if bt271.2 = 0 then ((kind_Takes.f k a0_0 a0_1 a0_2 a0_3 l0_4 a0_5).bind fun t277 => (some ((t277.length : Int) == 0))) else (some false)) else (some false)))))) else (some false)) = some true := H
 have A2 := Aside0.mk A20
 clear A20
 by_cases c3 : t270 = true
 ·subst c3
  have H1 : (if (l0_4.length : Int) > 100 then (some true) else ((kind_Gives.f k a0_0 a0_1 a0_2 a0_3 l0_4 a0_5).bind fun bt271 => ((kind_May.f k a0_0 a0_1 a0_2 a0_3 l0_4 a0_5).bind fun t273 => (if t273 = true then (if a0_0 = 17 then (if ((bt271.1 == 0) == true) = true then (if ((bt271.2 == 0) == true) = true then (if ((a0_3 == 0) == true) = true then ((kind_Pure.f a0_0).bind fun t274 => (if t274 = true then (some false) else (some true))) else (some false)) else (some false)) else (some false)) else (if ((bt271.1 == 0) == (a0_0 == 19)) = true then (if ((bt271.2 == 0) == (a0_0 == 19)) = true then (if ((a0_3 == 0) == (a0_0 == 19)) = true then (if a0_0 = 19 then ((kind_Pure.f a0_0).bind fun t275 => (if t275 = true then (some false) else (some true))) else ((kind_Shape.f bt271.1 bt271.2).bind fun t276 => (some t276))) else (some false)) else (some false)) else (some false))) else (if bt271.1 = 0 then (if bt271.2 = 0 then ((kind_Takes.f k a0_0 a0_1 a0_2 a0_3 l0_4 a0_5).bind fun t277 => (some ((t277.length : Int) == 0))) else (some false)) else (some false)))))) = some true := by rw [if_pos rfl] at H; exact H
  clear H
  have H := H1
  clear H1
  by_cases c4 : (l0_4.length : Int) > 100
  ·rw [if_pos c4] at H
   have c4b0 : decide (100 < (l0_4.length : Int)) = true := decide_eq_true c4
   have c4b1 : decide (100 < l0_4.length) = true := decide_eq_true (by omega)
   clear c4
   clear H
   go_enter Try.func7, Try.ntmps7
   go_wp2_with (first | ((with_reducible refine gate_dst (N := 1) rfl ?_); (try (refine gate_guard (by rfl) ?_; dsimp only)); refine box_event ?hg (N := 1) ?hd (cs := #[.int .i64 a0_0, .int .i64 a0_1, .int .i64 a0_2, .int .i64 a0_3, .slice A0_4 l0_4.length c0_4, .int .u64 a0_5]) (t := 27) ?hr ?_; (case hd => rfl); (case hg => rfl); (case hr => first | (go_simp; done) | (go_simp; rfl)); intro gb269 hg w5 hbox hb; have n0_ := Aside0.mk (below_step (B_) hb); have n1_ := Aside0.mk (hbox); have n2_ := Aside0.mk ((by rw [hg]; exact (below_size (B_)) : w.heap.size ≤ gb269)); have n3_ := Aside0.mk ((by rw [hg]; exact (below_size (B_)) : w.heap.size ≤ gb269)); clear HB; have HB := n0_; have BK269 := n1_; have GW269 := n2_; have GE269 := n3_; clear n0_ n1_ n2_ n3_; clear hb hbox hg) | ((with_reducible refine gate_callee (f := 9) rfl ?_); refine goesL_ (some 6) rfl rfl Try.func9 (by kernel_rfl) rfl #[] rfl (by (try simp only [List.map_toArray, List.map_cons, List.map_nil]); first | done | rfl | (simp only [List.length_drop, List.length_take]; rfl)) ?_; (with_reducible refine (locksteplaw03_awake.calls k   _ A2.out).mono ?_); rintro e w6 ⟨rfl, hb⟩; refine ⟨_, rfl, ?_⟩; have n0_ := Aside0.mk (blk_below (g := gb269) (o := .cells #[.int .i64 a0_0, .int .i64 a0_1, .int .i64 a0_2, .int .i64 a0_3, .slice A0_4 l0_4.length c0_4, .int .u64 a0_5] 27 (0, 0)) (by (with_reducible repeat (first | refine blk_drewN ?_ _ | refine blk_drew ?_ | refine blk_alloc ?_ _)); exact BK269.out) hb); have n1_ := Aside0.mk (below_step (B1_) hb); clear BK269; clear HB; have BK269 := n0_; have HB := n1_; clear n0_ n1_; (try clear hb); (try clear hb2); (try clear hk); (try clear hi); have hcz7_0 : w6.cell? ⟨gb269, 0, none⟩ = some (.int .i64 a0_0) := (blk_cell BK269.out 0).trans rfl; have hcz7_1 : w6.cell? ⟨gb269, 1, none⟩ = some (.int .i64 a0_1) := (blk_cell BK269.out 1).trans rfl; have hcz7_2 : w6.cell? ⟨gb269, 2, none⟩ = some (.int .i64 a0_2) := (blk_cell BK269.out 2).trans rfl; have hcz7_3 : w6.cell? ⟨gb269, 3, none⟩ = some (.int .i64 a0_3) := (blk_cell BK269.out 3).trans rfl; have hcz7_4 : w6.cell? ⟨gb269, 4, none⟩ = some (.slice A0_4 l0_4.length c0_4) := (blk_cell BK269.out 4).trans rfl; have hcz7_5 : w6.cell? ⟨gb269, 5, none⟩ = some (.int .u64 a0_5) := (blk_cell BK269.out 5).trans rfl; have hfz7_0 := blk_frozen BK269.out 0; have hfz7_1 := blk_frozen BK269.out 1; have hfz7_2 := blk_frozen BK269.out 2; have hfz7_3 := blk_frozen BK269.out 3; have hfz7_4 := blk_frozen BK269.out 4; have hfz7_5 := blk_frozen BK269.out 5))
   go_ret
   exact ⟨by first | rfl | exact congrArg (fun b => Ending.returned (Value.bool b)) HR_.out | (simp [errW_none, errW_some] <;> rfl) | (simp [*, errW_none, errW_some] <;> rfl), B1_⟩
  rw [if_neg c4] at H
  have c4b0 : decide (100 < (l0_4.length : Int)) = false := decide_eq_false c4
  have c4b1 : decide (100 < l0_4.length) = false := decide_eq_false (by omega)
  clear c4
  replace H := Option.bind_eq_some_iff.mp H
  obtain ⟨⟨t271, t272⟩, A80, H⟩ := H
  replace H : ((kind_May.f k a0_0 a0_1 a0_2 a0_3 l0_4 a0_5).bind fun t273 => (if t273 = true then (if a0_0 = 17 then (if ((t271 == 0) == true) = true then (if ((t272 == 0) == true) = true then (if ((a0_3 == 0) == true) = true then ((kind_Pure.f a0_0).bind fun t274 => (if t274 = true then (some false) else (some true))) else (some false)) else (some false)) else (some false)) else (if ((t271 == 0) == (a0_0 == 19)) = true then (if ((t272 == 0) == (a0_0 == 19)) = true then (if ((a0_3 == 0) == (a0_0 == 19)) = true then (if a0_0 = 19 then ((kind_Pure.f a0_0).bind fun t275 => (if t275 = true then (some false) else (some true))) else ((kind_Shape.f t271 t272).bind fun t276 => (some t276))) else (some false)) else (some false)) else (some false))) else (if t271 = 0 then (if t272 = 0 then ((kind_Takes.f k a0_0 a0_1 a0_2 a0_3 l0_4 a0_5).bind fun t277 => (some ((t277.length : Int) == 0))) else (some false)) else (some false)))) = some true := H
  have A8 := Aside0.mk A80
  clear A80
  replace H := Option.bind_eq_some_iff.mp H
  obtain ⟨t273, A90, H⟩ := H
  replace H : (if t273 = true then (if a0_0 = 17 then (if ((t271 == 0) == true) = true then (if ((t272 == 0) == true) = true then (if ((a0_3 == 0) == true) = true then ((kind_Pure.f a0_0).bind fun t274 => (if t274 = true then (some false) else (some true))) else (some false)) else (some false)) else (some false)) else (if ((t271 == 0) == (a0_0 == 19)) = true then (if ((t272 == 0) == (a0_0 == 19)) = true then (if ((a0_3 == 0) == (a0_0 == 19)) = true then (if a0_0 = 19 then ((kind_Pure.f a0_0).bind fun t275 => (if t275 = true then (some false) else (some true))) else ((kind_Shape.f t271 t272).bind fun t276 => (some t276))) else (some false)) else (some false)) else (some false))) else (if t271 = 0 then (if t272 = 0 then ((kind_Takes.f k a0_0 a0_1 a0_2 a0_3 l0_4 a0_5).bind fun t277 => (some ((t277.length : Int) == 0))) else (some false)) else (some false))) = some true := H
  have A9 := Aside0.mk A90
  clear A90
  by_cases c10 : t273 = true
  ·subst c10
   have H1 : (if a0_0 = 17 then (if ((t271 == 0) == true) = true then (if ((t272 == 0) == true) = true then (if ((a0_3 == 0) == true) = true then ((kind_Pure.f a0_0).bind fun t274 => (if t274 = true then (some false) else (some true))) else (some false)) else (some false)) else (some false)) else (if ((t271 == 0) == (a0_0 == 19)) = true then (if ((t272 == 0) == (a0_0 == 19)) = true then (if ((a0_3 == 0) == (a0_0 == 19)) = true then (if a0_0 = 19 then ((kind_Pure.f a0_0).bind fun t275 => (if t275 = true then (some false) else (some true))) else ((kind_Shape.f t271 t272).bind fun t276 => (some t276))) else (some false)) else (some false)) else (some false))) = some true := by rw [if_pos rfl] at H; exact H
   clear H
   have H := H1
   clear H1
   by_cases c11 : a0_0 = 17
   ·rw [if_pos c11] at H
    have c11b0 : (a0_0 == 17) = true := beq_iff_eq.mpr c11
    have c11b1 : (a0_0 != 17) = false := bne_eq_false_iff_eq.mpr c11
    clear c11
    by_cases c12 : ((t271 == 0) == true) = true
    ·rw [if_pos c12] at H
     have c12b0 : ((t271 == 0) == true) = true := c12
     (try (have c12b1 : decide ((t271 == 0) = true) = true := by simpa using c12))
     (try (have c12b2 : ((t271 == 0) == true) = true := by simpa using c12))
     clear c12
     by_cases c13 : ((t272 == 0) == true) = true
     ·rw [if_pos c13] at H
      have c13b0 : ((t272 == 0) == true) = true := c13
      (try (have c13b1 : decide ((t272 == 0) = true) = true := by simpa using c13))
      (try (have c13b2 : ((t272 == 0) == true) = true := by simpa using c13))
      clear c13
      by_cases c14 : ((a0_3 == 0) == true) = true
      ·rw [if_pos c14] at H
       have c14b0 : ((a0_3 == 0) == true) = true := c14
       (try (have c14b1 : decide ((a0_3 == 0) = true) = true := by simpa using c14))
       (try (have c14b2 : ((a0_3 == 0) == true) = true := by simpa using c14))
       clear c14
       replace H := Option.bind_eq_some_iff.mp H
       obtain ⟨t274, A150, H⟩ := H
       replace H : (if t274 = true then (some false) else (some true)) = some true := H
       have A15 := Aside0.mk A150
       clear A150
       by_cases c16 : t274 = true
       ·subst c16
        have H1 : (some false) = some true := by rw [if_pos rfl] at H; exact H
        clear H
        have H := H1
        clear H1
        exact absurd H (by simp)
       replace c16 := Bool.eq_false_iff.mpr c16
       subst c16
       have H1 : (some true) = some true := rfl
       clear H
       have H := H1
       clear H1
       clear H
       go_enter Try.func7, Try.ntmps7
       go_wp2_with (first | ((with_reducible refine gate_dst (N := 1) rfl ?_); (try (refine gate_guard (by rfl) ?_; dsimp only)); refine box_event ?hg (N := 1) ?hd (cs := #[.int .i64 a0_0, .int .i64 a0_1, .int .i64 a0_2, .int .i64 a0_3, .slice A0_4 l0_4.length c0_4, .int .u64 a0_5]) (t := 27) ?hr ?_; (case hd => rfl); (case hg => rfl); (case hr => first | (go_simp; done) | (go_simp; rfl)); intro gb269 hg w17 hbox hb; have n0_ := Aside0.mk (below_step (B_) hb); have n1_ := Aside0.mk (hbox); have n2_ := Aside0.mk ((by rw [hg]; exact (below_size (B_)) : w.heap.size ≤ gb269)); have n3_ := Aside0.mk ((by rw [hg]; exact (below_size (B_)) : w.heap.size ≤ gb269)); clear HB; have HB := n0_; have BK269 := n1_; have GW269 := n2_; have GE269 := n3_; clear n0_ n1_ n2_ n3_; clear hb hbox hg) | ((with_reducible refine gate_callee (f := 9) rfl ?_); refine goesL_ (some 6) rfl rfl Try.func9 (by kernel_rfl) rfl #[] rfl (by (try simp only [List.map_toArray, List.map_cons, List.map_nil]); first | done | rfl | (simp only [List.length_drop, List.length_take]; rfl)) ?_; (with_reducible refine (locksteplaw03_awake.calls k   _ A2.out).mono ?_); rintro e w18 ⟨rfl, hb⟩; refine ⟨_, rfl, ?_⟩; have n0_ := Aside0.mk (blk_below (g := gb269) (o := .cells #[.int .i64 a0_0, .int .i64 a0_1, .int .i64 a0_2, .int .i64 a0_3, .slice A0_4 l0_4.length c0_4, .int .u64 a0_5] 27 (0, 0)) (by (with_reducible repeat (first | refine blk_drewN ?_ _ | refine blk_drew ?_ | refine blk_alloc ?_ _)); exact BK269.out) hb); have n1_ := Aside0.mk (below_step (B1_) hb); clear BK269; clear HB; have BK269 := n0_; have HB := n1_; clear n0_ n1_; (try clear hb); (try clear hb2); (try clear hk); (try clear hi); have hcz19_0 : w18.cell? ⟨gb269, 0, none⟩ = some (.int .i64 a0_0) := (blk_cell BK269.out 0).trans rfl; have hcz19_1 : w18.cell? ⟨gb269, 1, none⟩ = some (.int .i64 a0_1) := (blk_cell BK269.out 1).trans rfl; have hcz19_2 : w18.cell? ⟨gb269, 2, none⟩ = some (.int .i64 a0_2) := (blk_cell BK269.out 2).trans rfl; have hcz19_3 : w18.cell? ⟨gb269, 3, none⟩ = some (.int .i64 a0_3) := (blk_cell BK269.out 3).trans rfl; have hcz19_4 : w18.cell? ⟨gb269, 4, none⟩ = some (.slice A0_4 l0_4.length c0_4) := (blk_cell BK269.out 4).trans rfl; have hcz19_5 : w18.cell? ⟨gb269, 5, none⟩ = some (.int .u64 a0_5) := (blk_cell BK269.out 5).trans rfl; have hfz19_0 := blk_frozen BK269.out 0; have hfz19_1 := blk_frozen BK269.out 1; have hfz19_2 := blk_frozen BK269.out 2; have hfz19_3 := blk_frozen BK269.out 3; have hfz19_4 := blk_frozen BK269.out 4; have hfz19_5 := blk_frozen BK269.out 5) | ((with_reducible refine gate_callee (f := 12) rfl ?_); refine goesL_ (some 14) rfl rfl Try.func12 (by kernel_rfl) rfl #[.agg #[.int .i64 a0_0, .int .i64 a0_1, .int .i64 a0_2, .int .i64 a0_3, .slice A0_4 l0_4.length c0_4, .int .u64 a0_5]] rfl (by (try simp only [List.map_toArray, List.map_cons, List.map_nil]); first | done | rfl | (simp only [List.length_drop, List.length_take]; rfl)) ?_; (with_reducible refine (kind_Gives.calls k a0_0 a0_1 a0_2 a0_3 _ _ l0_4 a0_5 t271 t272 _ ?side1 ?side2 A8.out).mono ?_); (case side1 => repeat (first | exact (Kd.C_below HR0_4.out HB.out) | (with_reducible refine Kd.C_alloc ?_ _) | (with_reducible refine Kd.C_drewN ?_ _) | (with_reducible refine Kd.C_drew ?_))); (case side2 => exact HC0_4.out); rintro e w20 ⟨rfl, hb⟩; refine ⟨_, rfl, ?_⟩; have n0_ := Aside0.mk (blk_below (g := gb269) (o := .cells #[.int .i64 a0_0, .int .i64 a0_1, .int .i64 a0_2, .int .i64 a0_3, .slice A0_4 l0_4.length c0_4, .int .u64 a0_5] 27 (0, 0)) (by (with_reducible repeat (first | refine blk_drewN ?_ _ | refine blk_drew ?_ | refine blk_alloc ?_ _)); exact BK269.out) hb); have n1_ := Aside0.mk (below_step (B1_) hb); clear BK269; clear HB; have BK269 := n0_; have HB := n1_; clear n0_ n1_; (try clear hb); (try clear hb2); (try clear hk); (try clear hi); have hcz21_0 : w20.cell? ⟨gb269, 0, none⟩ = some (.int .i64 a0_0) := (blk_cell BK269.out 0).trans rfl; have hcz21_1 : w20.cell? ⟨gb269, 1, none⟩ = some (.int .i64 a0_1) := (blk_cell BK269.out 1).trans rfl; have hcz21_2 : w20.cell? ⟨gb269, 2, none⟩ = some (.int .i64 a0_2) := (blk_cell BK269.out 2).trans rfl; have hcz21_3 : w20.cell? ⟨gb269, 3, none⟩ = some (.int .i64 a0_3) := (blk_cell BK269.out 3).trans rfl; have hcz21_4 : w20.cell? ⟨gb269, 4, none⟩ = some (.slice A0_4 l0_4.length c0_4) := (blk_cell BK269.out 4).trans rfl; have hcz21_5 : w20.cell? ⟨gb269, 5, none⟩ = some (.int .u64 a0_5) := (blk_cell BK269.out 5).trans rfl; have hfz21_0 := blk_frozen BK269.out 0; have hfz21_1 := blk_frozen BK269.out 1; have hfz21_2 := blk_frozen BK269.out 2; have hfz21_3 := blk_frozen BK269.out 3; have hfz21_4 := blk_frozen BK269.out 4; have hfz21_5 := blk_frozen BK269.out 5) | ((with_reducible refine gate_callee (f := 11) rfl ?_); refine goesL_ (some 18) rfl rfl Try.func11 (by kernel_rfl) rfl #[.agg #[.int .i64 a0_0, .int .i64 a0_1, .int .i64 a0_2, .int .i64 a0_3, .slice A0_4 l0_4.length c0_4, .int .u64 a0_5]] rfl (by (try simp only [List.map_toArray, List.map_cons, List.map_nil]); first | done | rfl | (simp only [List.length_drop, List.length_take]; rfl)) ?_; (with_reducible refine (kind_May.calls k a0_0 a0_1 a0_2 a0_3 _ _ l0_4 a0_5 true _ ?side1 ?side2 A9.out).mono ?_); (case side1 => repeat (first | exact (Kd.C_below HR0_4.out HB.out) | (with_reducible refine Kd.C_alloc ?_ _) | (with_reducible refine Kd.C_drewN ?_ _) | (with_reducible refine Kd.C_drew ?_))); (case side2 => exact HC0_4.out); rintro e w22 ⟨rfl, hb⟩; refine ⟨_, rfl, ?_⟩; have n0_ := Aside0.mk (blk_below (g := gb269) (o := .cells #[.int .i64 a0_0, .int .i64 a0_1, .int .i64 a0_2, .int .i64 a0_3, .slice A0_4 l0_4.length c0_4, .int .u64 a0_5] 27 (0, 0)) (by (with_reducible repeat (first | refine blk_drewN ?_ _ | refine blk_drew ?_ | refine blk_alloc ?_ _)); exact BK269.out) hb); have n1_ := Aside0.mk (below_step (B1_) hb); clear BK269; clear HB; have BK269 := n0_; have HB := n1_; clear n0_ n1_; (try clear hb); (try clear hb2); (try clear hk); (try clear hi); have hcz23_0 : w22.cell? ⟨gb269, 0, none⟩ = some (.int .i64 a0_0) := (blk_cell BK269.out 0).trans rfl; have hcz23_1 : w22.cell? ⟨gb269, 1, none⟩ = some (.int .i64 a0_1) := (blk_cell BK269.out 1).trans rfl; have hcz23_2 : w22.cell? ⟨gb269, 2, none⟩ = some (.int .i64 a0_2) := (blk_cell BK269.out 2).trans rfl; have hcz23_3 : w22.cell? ⟨gb269, 3, none⟩ = some (.int .i64 a0_3) := (blk_cell BK269.out 3).trans rfl; have hcz23_4 : w22.cell? ⟨gb269, 4, none⟩ = some (.slice A0_4 l0_4.length c0_4) := (blk_cell BK269.out 4).trans rfl; have hcz23_5 : w22.cell? ⟨gb269, 5, none⟩ = some (.int .u64 a0_5) := (blk_cell BK269.out 5).trans rfl; have hfz23_0 := blk_frozen BK269.out 0; have hfz23_1 := blk_frozen BK269.out 1; have hfz23_2 := blk_frozen BK269.out 2; have hfz23_3 := blk_frozen BK269.out 3; have hfz23_4 := blk_frozen BK269.out 4; have hfz23_5 := blk_frozen BK269.out 5) | (go_at_call 19; (with_reducible refine (kind_Pure.calls a0_0 false _ A15.out).mono ?_); rintro e w' ⟨rfl, ⟨nd, rfl⟩⟩))
       go_ret
       exact ⟨by first | rfl | exact congrArg (fun b => Ending.returned (Value.bool b)) HR_.out | (simp [errW_none, errW_some] <;> rfl) | (simp [*, errW_none, errW_some] <;> rfl), B1_⟩
      rw [if_neg c14] at H
      have c14b0 : ((a0_3 == 0) == true) = false := by simpa using c14
      (try (have c14b1 : decide ((a0_3 == 0) = true) = false := by simpa using c14))
      (try (have c14b2 : ((a0_3 == 0) == true) = false := by simpa using c14))
      (try (have c14b3 : ¬ ((a0_3 == 0) = true) := by simpa using c14))
      clear c14
      exact absurd H (by simp)
     rw [if_neg c13] at H
     have c13b0 : ((t272 == 0) == true) = false := by simpa using c13
     (try (have c13b1 : decide ((t272 == 0) = true) = false := by simpa using c13))
     (try (have c13b2 : ((t272 == 0) == true) = false := by simpa using c13))
     (try (have c13b3 : ¬ ((t272 == 0) = true) := by simpa using c13))
     clear c13
     exact absurd H (by simp)
    rw [if_neg c12] at H
    have c12b0 : ((t271 == 0) == true) = false := by simpa using c12
    (try (have c12b1 : decide ((t271 == 0) = true) = false := by simpa using c12))
    (try (have c12b2 : ((t271 == 0) == true) = false := by simpa using c12))
    (try (have c12b3 : ¬ ((t271 == 0) = true) := by simpa using c12))
    clear c12
    exact absurd H (by simp)
   rw [if_neg c11] at H
   have c11b0 : (a0_0 == 17) = false := beq_eq_false_iff_ne.mpr c11
   have c11b1 : (a0_0 != 17) = true := bne_iff_ne.mpr c11
   by_cases c24 : ((t271 == 0) == (a0_0 == 19)) = true
   ·rw [if_pos c24] at H
    have c24b0 : ((t271 == 0) == (a0_0 == 19)) = true := c24
    (try (have c24b1 : decide ((t271 == 0) = (a0_0 == 19)) = true := by simpa using c24))
    (try (have c24b2 : ((t271 == 0) == (a0_0 == 19)) = true := by simpa using c24))
    clear c24
    by_cases c25 : ((t272 == 0) == (a0_0 == 19)) = true
    ·rw [if_pos c25] at H
     have c25b0 : ((t272 == 0) == (a0_0 == 19)) = true := c25
     (try (have c25b1 : decide ((t272 == 0) = (a0_0 == 19)) = true := by simpa using c25))
     (try (have c25b2 : ((t272 == 0) == (a0_0 == 19)) = true := by simpa using c25))
     clear c25
     by_cases c26 : ((a0_3 == 0) == (a0_0 == 19)) = true
     ·rw [if_pos c26] at H
      have c26b0 : ((a0_3 == 0) == (a0_0 == 19)) = true := c26
      (try (have c26b1 : decide ((a0_3 == 0) = (a0_0 == 19)) = true := by simpa using c26))
      (try (have c26b2 : ((a0_3 == 0) == (a0_0 == 19)) = true := by simpa using c26))
      clear c26
      by_cases c27 : a0_0 = 19
      ·rw [if_pos c27] at H
       have c27b0 : (a0_0 == 19) = true := beq_iff_eq.mpr c27
       have c27b1 : (a0_0 != 19) = false := bne_eq_false_iff_eq.mpr c27
       clear c27
       replace H := Option.bind_eq_some_iff.mp H
       obtain ⟨t275, A280, H⟩ := H
       replace H : (if t275 = true then (some false) else (some true)) = some true := H
       have A28 := Aside0.mk A280
       clear A280
       by_cases c29 : t275 = true
       ·subst c29
        have H1 : (some false) = some true := by rw [if_pos rfl] at H; exact H
        clear H
        have H := H1
        clear H1
        exact absurd H (by simp)
       replace c29 := Bool.eq_false_iff.mpr c29
       subst c29
       have H1 : (some true) = some true := rfl
       clear H
       have H := H1
       clear H1
       clear H
       go_enter Try.func7, Try.ntmps7
       go_wp2_with (first | ((with_reducible refine gate_dst (N := 1) rfl ?_); (try (refine gate_guard (by rfl) ?_; dsimp only)); refine box_event ?hg (N := 1) ?hd (cs := #[.int .i64 a0_0, .int .i64 a0_1, .int .i64 a0_2, .int .i64 a0_3, .slice A0_4 l0_4.length c0_4, .int .u64 a0_5]) (t := 27) ?hr ?_; (case hd => rfl); (case hg => rfl); (case hr => first | (go_simp; done) | (go_simp; rfl)); intro gb269 hg w30 hbox hb; have n0_ := Aside0.mk (below_step (B_) hb); have n1_ := Aside0.mk (hbox); have n2_ := Aside0.mk ((by rw [hg]; exact (below_size (B_)) : w.heap.size ≤ gb269)); have n3_ := Aside0.mk ((by rw [hg]; exact (below_size (B_)) : w.heap.size ≤ gb269)); clear HB; have HB := n0_; have BK269 := n1_; have GW269 := n2_; have GE269 := n3_; clear n0_ n1_ n2_ n3_; clear hb hbox hg) | ((with_reducible refine gate_callee (f := 9) rfl ?_); refine goesL_ (some 6) rfl rfl Try.func9 (by kernel_rfl) rfl #[] rfl (by (try simp only [List.map_toArray, List.map_cons, List.map_nil]); first | done | rfl | (simp only [List.length_drop, List.length_take]; rfl)) ?_; (with_reducible refine (locksteplaw03_awake.calls k   _ A2.out).mono ?_); rintro e w31 ⟨rfl, hb⟩; refine ⟨_, rfl, ?_⟩; have n0_ := Aside0.mk (blk_below (g := gb269) (o := .cells #[.int .i64 a0_0, .int .i64 a0_1, .int .i64 a0_2, .int .i64 a0_3, .slice A0_4 l0_4.length c0_4, .int .u64 a0_5] 27 (0, 0)) (by (with_reducible repeat (first | refine blk_drewN ?_ _ | refine blk_drew ?_ | refine blk_alloc ?_ _)); exact BK269.out) hb); have n1_ := Aside0.mk (below_step (B1_) hb); clear BK269; clear HB; have BK269 := n0_; have HB := n1_; clear n0_ n1_; (try clear hb); (try clear hb2); (try clear hk); (try clear hi); have hcz32_0 : w31.cell? ⟨gb269, 0, none⟩ = some (.int .i64 a0_0) := (blk_cell BK269.out 0).trans rfl; have hcz32_1 : w31.cell? ⟨gb269, 1, none⟩ = some (.int .i64 a0_1) := (blk_cell BK269.out 1).trans rfl; have hcz32_2 : w31.cell? ⟨gb269, 2, none⟩ = some (.int .i64 a0_2) := (blk_cell BK269.out 2).trans rfl; have hcz32_3 : w31.cell? ⟨gb269, 3, none⟩ = some (.int .i64 a0_3) := (blk_cell BK269.out 3).trans rfl; have hcz32_4 : w31.cell? ⟨gb269, 4, none⟩ = some (.slice A0_4 l0_4.length c0_4) := (blk_cell BK269.out 4).trans rfl; have hcz32_5 : w31.cell? ⟨gb269, 5, none⟩ = some (.int .u64 a0_5) := (blk_cell BK269.out 5).trans rfl; have hfz32_0 := blk_frozen BK269.out 0; have hfz32_1 := blk_frozen BK269.out 1; have hfz32_2 := blk_frozen BK269.out 2; have hfz32_3 := blk_frozen BK269.out 3; have hfz32_4 := blk_frozen BK269.out 4; have hfz32_5 := blk_frozen BK269.out 5) | ((with_reducible refine gate_callee (f := 12) rfl ?_); refine goesL_ (some 14) rfl rfl Try.func12 (by kernel_rfl) rfl #[.agg #[.int .i64 a0_0, .int .i64 a0_1, .int .i64 a0_2, .int .i64 a0_3, .slice A0_4 l0_4.length c0_4, .int .u64 a0_5]] rfl (by (try simp only [List.map_toArray, List.map_cons, List.map_nil]); first | done | rfl | (simp only [List.length_drop, List.length_take]; rfl)) ?_; (with_reducible refine (kind_Gives.calls k a0_0 a0_1 a0_2 a0_3 _ _ l0_4 a0_5 t271 t272 _ ?side1 ?side2 A8.out).mono ?_); (case side1 => repeat (first | exact (Kd.C_below HR0_4.out HB.out) | (with_reducible refine Kd.C_alloc ?_ _) | (with_reducible refine Kd.C_drewN ?_ _) | (with_reducible refine Kd.C_drew ?_))); (case side2 => exact HC0_4.out); rintro e w33 ⟨rfl, hb⟩; refine ⟨_, rfl, ?_⟩; have n0_ := Aside0.mk (blk_below (g := gb269) (o := .cells #[.int .i64 a0_0, .int .i64 a0_1, .int .i64 a0_2, .int .i64 a0_3, .slice A0_4 l0_4.length c0_4, .int .u64 a0_5] 27 (0, 0)) (by (with_reducible repeat (first | refine blk_drewN ?_ _ | refine blk_drew ?_ | refine blk_alloc ?_ _)); exact BK269.out) hb); have n1_ := Aside0.mk (below_step (B1_) hb); clear BK269; clear HB; have BK269 := n0_; have HB := n1_; clear n0_ n1_; (try clear hb); (try clear hb2); (try clear hk); (try clear hi); have hcz34_0 : w33.cell? ⟨gb269, 0, none⟩ = some (.int .i64 a0_0) := (blk_cell BK269.out 0).trans rfl; have hcz34_1 : w33.cell? ⟨gb269, 1, none⟩ = some (.int .i64 a0_1) := (blk_cell BK269.out 1).trans rfl; have hcz34_2 : w33.cell? ⟨gb269, 2, none⟩ = some (.int .i64 a0_2) := (blk_cell BK269.out 2).trans rfl; have hcz34_3 : w33.cell? ⟨gb269, 3, none⟩ = some (.int .i64 a0_3) := (blk_cell BK269.out 3).trans rfl; have hcz34_4 : w33.cell? ⟨gb269, 4, none⟩ = some (.slice A0_4 l0_4.length c0_4) := (blk_cell BK269.out 4).trans rfl; have hcz34_5 : w33.cell? ⟨gb269, 5, none⟩ = some (.int .u64 a0_5) := (blk_cell BK269.out 5).trans rfl; have hfz34_0 := blk_frozen BK269.out 0; have hfz34_1 := blk_frozen BK269.out 1; have hfz34_2 := blk_frozen BK269.out 2; have hfz34_3 := blk_frozen BK269.out 3; have hfz34_4 := blk_frozen BK269.out 4; have hfz34_5 := blk_frozen BK269.out 5) | ((with_reducible refine gate_callee (f := 11) rfl ?_); refine goesL_ (some 18) rfl rfl Try.func11 (by kernel_rfl) rfl #[.agg #[.int .i64 a0_0, .int .i64 a0_1, .int .i64 a0_2, .int .i64 a0_3, .slice A0_4 l0_4.length c0_4, .int .u64 a0_5]] rfl (by (try simp only [List.map_toArray, List.map_cons, List.map_nil]); first | done | rfl | (simp only [List.length_drop, List.length_take]; rfl)) ?_; (with_reducible refine (kind_May.calls k a0_0 a0_1 a0_2 a0_3 _ _ l0_4 a0_5 true _ ?side1 ?side2 A9.out).mono ?_); (case side1 => repeat (first | exact (Kd.C_below HR0_4.out HB.out) | (with_reducible refine Kd.C_alloc ?_ _) | (with_reducible refine Kd.C_drewN ?_ _) | (with_reducible refine Kd.C_drew ?_))); (case side2 => exact HC0_4.out); rintro e w35 ⟨rfl, hb⟩; refine ⟨_, rfl, ?_⟩; have n0_ := Aside0.mk (blk_below (g := gb269) (o := .cells #[.int .i64 a0_0, .int .i64 a0_1, .int .i64 a0_2, .int .i64 a0_3, .slice A0_4 l0_4.length c0_4, .int .u64 a0_5] 27 (0, 0)) (by (with_reducible repeat (first | refine blk_drewN ?_ _ | refine blk_drew ?_ | refine blk_alloc ?_ _)); exact BK269.out) hb); have n1_ := Aside0.mk (below_step (B1_) hb); clear BK269; clear HB; have BK269 := n0_; have HB := n1_; clear n0_ n1_; (try clear hb); (try clear hb2); (try clear hk); (try clear hi); have hcz36_0 : w35.cell? ⟨gb269, 0, none⟩ = some (.int .i64 a0_0) := (blk_cell BK269.out 0).trans rfl; have hcz36_1 : w35.cell? ⟨gb269, 1, none⟩ = some (.int .i64 a0_1) := (blk_cell BK269.out 1).trans rfl; have hcz36_2 : w35.cell? ⟨gb269, 2, none⟩ = some (.int .i64 a0_2) := (blk_cell BK269.out 2).trans rfl; have hcz36_3 : w35.cell? ⟨gb269, 3, none⟩ = some (.int .i64 a0_3) := (blk_cell BK269.out 3).trans rfl; have hcz36_4 : w35.cell? ⟨gb269, 4, none⟩ = some (.slice A0_4 l0_4.length c0_4) := (blk_cell BK269.out 4).trans rfl; have hcz36_5 : w35.cell? ⟨gb269, 5, none⟩ = some (.int .u64 a0_5) := (blk_cell BK269.out 5).trans rfl; have hfz36_0 := blk_frozen BK269.out 0; have hfz36_1 := blk_frozen BK269.out 1; have hfz36_2 := blk_frozen BK269.out 2; have hfz36_3 := blk_frozen BK269.out 3; have hfz36_4 := blk_frozen BK269.out 4; have hfz36_5 := blk_frozen BK269.out 5) | (go_at_call 19; (with_reducible refine (kind_Pure.calls a0_0 false _ A28.out).mono ?_); rintro e w' ⟨rfl, ⟨nd, rfl⟩⟩))
       all_goals first | (exfalso; simp_all; done) | (go_ret; exact ⟨by first | rfl | (have h_ := HR_.out; simp [h_]; done) | (have h_ := HR_.out; simp_all; done) | exact congrArg (fun b => Ending.returned (Value.bool b)) HR_.out | (simp [errW_none, errW_some] <;> rfl) | (simp [*, errW_none, errW_some] <;> rfl), B1_⟩)
      rw [if_neg c27] at H
      have c27b0 : (a0_0 == 19) = false := beq_eq_false_iff_ne.mpr c27
      have c27b1 : (a0_0 != 19) = true := bne_iff_ne.mpr c27
      replace H := Option.bind_eq_some_iff.mp H
      obtain ⟨t276, A370, H⟩ := H
      replace H : (some t276) = some true := H
      have A37 := Aside0.mk A370
      clear A370
      have HR_ := Aside0.mk (Option.some.inj H)
      clear H
      go_enter Try.func7, Try.ntmps7
      go_wp2_with (first | ((with_reducible refine gate_dst (N := 1) rfl ?_); (try (refine gate_guard (by rfl) ?_; dsimp only)); refine box_event ?hg (N := 1) ?hd (cs := #[.int .i64 a0_0, .int .i64 a0_1, .int .i64 a0_2, .int .i64 a0_3, .slice A0_4 l0_4.length c0_4, .int .u64 a0_5]) (t := 27) ?hr ?_; (case hd => rfl); (case hg => rfl); (case hr => first | (go_simp; done) | (go_simp; rfl)); intro gb269 hg w38 hbox hb; have n0_ := Aside0.mk (below_step (B_) hb); have n1_ := Aside0.mk (hbox); have n2_ := Aside0.mk ((by rw [hg]; exact (below_size (B_)) : w.heap.size ≤ gb269)); have n3_ := Aside0.mk ((by rw [hg]; exact (below_size (B_)) : w.heap.size ≤ gb269)); clear HB; have HB := n0_; have BK269 := n1_; have GW269 := n2_; have GE269 := n3_; clear n0_ n1_ n2_ n3_; clear hb hbox hg) | ((with_reducible refine gate_callee (f := 9) rfl ?_); refine goesL_ (some 6) rfl rfl Try.func9 (by kernel_rfl) rfl #[] rfl (by (try simp only [List.map_toArray, List.map_cons, List.map_nil]); first | done | rfl | (simp only [List.length_drop, List.length_take]; rfl)) ?_; (with_reducible refine (locksteplaw03_awake.calls k   _ A2.out).mono ?_); rintro e w39 ⟨rfl, hb⟩; refine ⟨_, rfl, ?_⟩; have n0_ := Aside0.mk (blk_below (g := gb269) (o := .cells #[.int .i64 a0_0, .int .i64 a0_1, .int .i64 a0_2, .int .i64 a0_3, .slice A0_4 l0_4.length c0_4, .int .u64 a0_5] 27 (0, 0)) (by (with_reducible repeat (first | refine blk_drewN ?_ _ | refine blk_drew ?_ | refine blk_alloc ?_ _)); exact BK269.out) hb); have n1_ := Aside0.mk (below_step (B1_) hb); clear BK269; clear HB; have BK269 := n0_; have HB := n1_; clear n0_ n1_; (try clear hb); (try clear hb2); (try clear hk); (try clear hi); have hcz40_0 : w39.cell? ⟨gb269, 0, none⟩ = some (.int .i64 a0_0) := (blk_cell BK269.out 0).trans rfl; have hcz40_1 : w39.cell? ⟨gb269, 1, none⟩ = some (.int .i64 a0_1) := (blk_cell BK269.out 1).trans rfl; have hcz40_2 : w39.cell? ⟨gb269, 2, none⟩ = some (.int .i64 a0_2) := (blk_cell BK269.out 2).trans rfl; have hcz40_3 : w39.cell? ⟨gb269, 3, none⟩ = some (.int .i64 a0_3) := (blk_cell BK269.out 3).trans rfl; have hcz40_4 : w39.cell? ⟨gb269, 4, none⟩ = some (.slice A0_4 l0_4.length c0_4) := (blk_cell BK269.out 4).trans rfl; have hcz40_5 : w39.cell? ⟨gb269, 5, none⟩ = some (.int .u64 a0_5) := (blk_cell BK269.out 5).trans rfl; have hfz40_0 := blk_frozen BK269.out 0; have hfz40_1 := blk_frozen BK269.out 1; have hfz40_2 := blk_frozen BK269.out 2; have hfz40_3 := blk_frozen BK269.out 3; have hfz40_4 := blk_frozen BK269.out 4; have hfz40_5 := blk_frozen BK269.out 5) | ((with_reducible refine gate_callee (f := 12) rfl ?_); refine goesL_ (some 14) rfl rfl Try.func12 (by kernel_rfl) rfl #[.agg #[.int .i64 a0_0, .int .i64 a0_1, .int .i64 a0_2, .int .i64 a0_3, .slice A0_4 l0_4.length c0_4, .int .u64 a0_5]] rfl (by (try simp only [List.map_toArray, List.map_cons, List.map_nil]); first | done | rfl | (simp only [List.length_drop, List.length_take]; rfl)) ?_; (with_reducible refine (kind_Gives.calls k a0_0 a0_1 a0_2 a0_3 _ _ l0_4 a0_5 t271 t272 _ ?side1 ?side2 A8.out).mono ?_); (case side1 => repeat (first | exact (Kd.C_below HR0_4.out HB.out) | (with_reducible refine Kd.C_alloc ?_ _) | (with_reducible refine Kd.C_drewN ?_ _) | (with_reducible refine Kd.C_drew ?_))); (case side2 => exact HC0_4.out); rintro e w41 ⟨rfl, hb⟩; refine ⟨_, rfl, ?_⟩; have n0_ := Aside0.mk (blk_below (g := gb269) (o := .cells #[.int .i64 a0_0, .int .i64 a0_1, .int .i64 a0_2, .int .i64 a0_3, .slice A0_4 l0_4.length c0_4, .int .u64 a0_5] 27 (0, 0)) (by (with_reducible repeat (first | refine blk_drewN ?_ _ | refine blk_drew ?_ | refine blk_alloc ?_ _)); exact BK269.out) hb); have n1_ := Aside0.mk (below_step (B1_) hb); clear BK269; clear HB; have BK269 := n0_; have HB := n1_; clear n0_ n1_; (try clear hb); (try clear hb2); (try clear hk); (try clear hi); have hcz42_0 : w41.cell? ⟨gb269, 0, none⟩ = some (.int .i64 a0_0) := (blk_cell BK269.out 0).trans rfl; have hcz42_1 : w41.cell? ⟨gb269, 1, none⟩ = some (.int .i64 a0_1) := (blk_cell BK269.out 1).trans rfl; have hcz42_2 : w41.cell? ⟨gb269, 2, none⟩ = some (.int .i64 a0_2) := (blk_cell BK269.out 2).trans rfl; have hcz42_3 : w41.cell? ⟨gb269, 3, none⟩ = some (.int .i64 a0_3) := (blk_cell BK269.out 3).trans rfl; have hcz42_4 : w41.cell? ⟨gb269, 4, none⟩ = some (.slice A0_4 l0_4.length c0_4) := (blk_cell BK269.out 4).trans rfl; have hcz42_5 : w41.cell? ⟨gb269, 5, none⟩ = some (.int .u64 a0_5) := (blk_cell BK269.out 5).trans rfl; have hfz42_0 := blk_frozen BK269.out 0; have hfz42_1 := blk_frozen BK269.out 1; have hfz42_2 := blk_frozen BK269.out 2; have hfz42_3 := blk_frozen BK269.out 3; have hfz42_4 := blk_frozen BK269.out 4; have hfz42_5 := blk_frozen BK269.out 5) | ((with_reducible refine gate_callee (f := 11) rfl ?_); refine goesL_ (some 18) rfl rfl Try.func11 (by kernel_rfl) rfl #[.agg #[.int .i64 a0_0, .int .i64 a0_1, .int .i64 a0_2, .int .i64 a0_3, .slice A0_4 l0_4.length c0_4, .int .u64 a0_5]] rfl (by (try simp only [List.map_toArray, List.map_cons, List.map_nil]); first | done | rfl | (simp only [List.length_drop, List.length_take]; rfl)) ?_; (with_reducible refine (kind_May.calls k a0_0 a0_1 a0_2 a0_3 _ _ l0_4 a0_5 true _ ?side1 ?side2 A9.out).mono ?_); (case side1 => repeat (first | exact (Kd.C_below HR0_4.out HB.out) | (with_reducible refine Kd.C_alloc ?_ _) | (with_reducible refine Kd.C_drewN ?_ _) | (with_reducible refine Kd.C_drew ?_))); (case side2 => exact HC0_4.out); rintro e w43 ⟨rfl, hb⟩; refine ⟨_, rfl, ?_⟩; have n0_ := Aside0.mk (blk_below (g := gb269) (o := .cells #[.int .i64 a0_0, .int .i64 a0_1, .int .i64 a0_2, .int .i64 a0_3, .slice A0_4 l0_4.length c0_4, .int .u64 a0_5] 27 (0, 0)) (by (with_reducible repeat (first | refine blk_drewN ?_ _ | refine blk_drew ?_ | refine blk_alloc ?_ _)); exact BK269.out) hb); have n1_ := Aside0.mk (below_step (B1_) hb); clear BK269; clear HB; have BK269 := n0_; have HB := n1_; clear n0_ n1_; (try clear hb); (try clear hb2); (try clear hk); (try clear hi); have hcz44_0 : w43.cell? ⟨gb269, 0, none⟩ = some (.int .i64 a0_0) := (blk_cell BK269.out 0).trans rfl; have hcz44_1 : w43.cell? ⟨gb269, 1, none⟩ = some (.int .i64 a0_1) := (blk_cell BK269.out 1).trans rfl; have hcz44_2 : w43.cell? ⟨gb269, 2, none⟩ = some (.int .i64 a0_2) := (blk_cell BK269.out 2).trans rfl; have hcz44_3 : w43.cell? ⟨gb269, 3, none⟩ = some (.int .i64 a0_3) := (blk_cell BK269.out 3).trans rfl; have hcz44_4 : w43.cell? ⟨gb269, 4, none⟩ = some (.slice A0_4 l0_4.length c0_4) := (blk_cell BK269.out 4).trans rfl; have hcz44_5 : w43.cell? ⟨gb269, 5, none⟩ = some (.int .u64 a0_5) := (blk_cell BK269.out 5).trans rfl; have hfz44_0 := blk_frozen BK269.out 0; have hfz44_1 := blk_frozen BK269.out 1; have hfz44_2 := blk_frozen BK269.out 2; have hfz44_3 := blk_frozen BK269.out 3; have hfz44_4 := blk_frozen BK269.out 4; have hfz44_5 := blk_frozen BK269.out 5) | (go_at_call 10; (with_reducible refine (kind_Shape.calls t271 t272 t276 _ A37.out).mono ?_); rintro e w' ⟨rfl, ⟨nd, rfl⟩⟩))
      all_goals first | (exfalso; simp_all; done) | (go_ret; exact ⟨by first | rfl | (have h_ := HR_.out; simp [h_]; done) | (have h_ := HR_.out; simp_all; done) | exact congrArg (fun b => Ending.returned (Value.bool b)) HR_.out | (simp [errW_none, errW_some] <;> rfl) | (simp [*, errW_none, errW_some] <;> rfl), B1_⟩)
     rw [if_neg c26] at H
     have c26b0 : ((a0_3 == 0) == (a0_0 == 19)) = false := by simpa using c26
     (try (have c26b1 : decide ((a0_3 == 0) = (a0_0 == 19)) = false := by simpa using c26))
     (try (have c26b2 : ((a0_3 == 0) == (a0_0 == 19)) = false := by simpa using c26))
     (try (have c26b3 : ¬ ((a0_3 == 0) = (a0_0 == 19)) := by simpa using c26))
     clear c26
     exact absurd H (by simp)
    rw [if_neg c25] at H
    have c25b0 : ((t272 == 0) == (a0_0 == 19)) = false := by simpa using c25
    (try (have c25b1 : decide ((t272 == 0) = (a0_0 == 19)) = false := by simpa using c25))
    (try (have c25b2 : ((t272 == 0) == (a0_0 == 19)) = false := by simpa using c25))
    (try (have c25b3 : ¬ ((t272 == 0) = (a0_0 == 19)) := by simpa using c25))
    clear c25
    exact absurd H (by simp)
   rw [if_neg c24] at H
   have c24b0 : ((t271 == 0) == (a0_0 == 19)) = false := by simpa using c24
   (try (have c24b1 : decide ((t271 == 0) = (a0_0 == 19)) = false := by simpa using c24))
   (try (have c24b2 : ((t271 == 0) == (a0_0 == 19)) = false := by simpa using c24))
   (try (have c24b3 : ¬ ((t271 == 0) = (a0_0 == 19)) := by simpa using c24))
   clear c24
   exact absurd H (by simp)
  replace c10 := Bool.eq_false_iff.mpr c10
  subst c10
  have H1 : (if t271 = 0 then (if t272 = 0 then ((kind_Takes.f k a0_0 a0_1 a0_2 a0_3 l0_4 a0_5).bind fun t277 => (some ((t277.length : Int) == 0))) else (some false)) else (some false)) = some true := by rw [if_neg (show ¬ (false = true) by decide)] at H; exact H
  clear H
  have H := H1
  clear H1
  by_cases c45 : t271 = 0
  ·rw [if_pos c45] at H
   have c45b0 : (t271 == 0) = true := beq_iff_eq.mpr c45
   have c45b1 : (t271 != 0) = false := bne_eq_false_iff_eq.mpr c45
   clear c45
   by_cases c46 : t272 = 0
   ·rw [if_pos c46] at H
    have c46b0 : (t272 == 0) = true := beq_iff_eq.mpr c46
    have c46b1 : (t272 != 0) = false := bne_eq_false_iff_eq.mpr c46
    clear c46
    replace H := Option.bind_eq_some_iff.mp H
    obtain ⟨t277, A470, H⟩ := H
    replace H : (some ((t277.length : Int) == 0)) = some true := H
    have A47 := Aside0.mk A470
    clear A470
    have HR_ := Aside0.mk (Option.some.inj H)
    clear H
    go_enter Try.func7, Try.ntmps7
    go_wp2_with (first | ((with_reducible refine gate_dst (N := 1) rfl ?_); (try (refine gate_guard (by rfl) ?_; dsimp only)); refine box_event ?hg (N := 1) ?hd (cs := #[.int .i64 a0_0, .int .i64 a0_1, .int .i64 a0_2, .int .i64 a0_3, .slice A0_4 l0_4.length c0_4, .int .u64 a0_5]) (t := 27) ?hr ?_; (case hd => rfl); (case hg => rfl); (case hr => first | (go_simp; done) | (go_simp; rfl)); intro gb269 hg w48 hbox hb; have n0_ := Aside0.mk (below_step (B_) hb); have n1_ := Aside0.mk (hbox); have n2_ := Aside0.mk ((by rw [hg]; exact (below_size (B_)) : w.heap.size ≤ gb269)); have n3_ := Aside0.mk ((by rw [hg]; exact (below_size (B_)) : w.heap.size ≤ gb269)); clear HB; have HB := n0_; have BK269 := n1_; have GW269 := n2_; have GE269 := n3_; clear n0_ n1_ n2_ n3_; clear hb hbox hg) | ((with_reducible refine gate_callee (f := 9) rfl ?_); refine goesL_ (some 6) rfl rfl Try.func9 (by kernel_rfl) rfl #[] rfl (by (try simp only [List.map_toArray, List.map_cons, List.map_nil]); first | done | rfl | (simp only [List.length_drop, List.length_take]; rfl)) ?_; (with_reducible refine (locksteplaw03_awake.calls k   _ A2.out).mono ?_); rintro e w49 ⟨rfl, hb⟩; refine ⟨_, rfl, ?_⟩; have n0_ := Aside0.mk (blk_below (g := gb269) (o := .cells #[.int .i64 a0_0, .int .i64 a0_1, .int .i64 a0_2, .int .i64 a0_3, .slice A0_4 l0_4.length c0_4, .int .u64 a0_5] 27 (0, 0)) (by (with_reducible repeat (first | refine blk_drewN ?_ _ | refine blk_drew ?_ | refine blk_alloc ?_ _)); exact BK269.out) hb); have n1_ := Aside0.mk (below_step (B1_) hb); clear BK269; clear HB; have BK269 := n0_; have HB := n1_; clear n0_ n1_; (try clear hb); (try clear hb2); (try clear hk); (try clear hi); have hcz50_0 : w49.cell? ⟨gb269, 0, none⟩ = some (.int .i64 a0_0) := (blk_cell BK269.out 0).trans rfl; have hcz50_1 : w49.cell? ⟨gb269, 1, none⟩ = some (.int .i64 a0_1) := (blk_cell BK269.out 1).trans rfl; have hcz50_2 : w49.cell? ⟨gb269, 2, none⟩ = some (.int .i64 a0_2) := (blk_cell BK269.out 2).trans rfl; have hcz50_3 : w49.cell? ⟨gb269, 3, none⟩ = some (.int .i64 a0_3) := (blk_cell BK269.out 3).trans rfl; have hcz50_4 : w49.cell? ⟨gb269, 4, none⟩ = some (.slice A0_4 l0_4.length c0_4) := (blk_cell BK269.out 4).trans rfl; have hcz50_5 : w49.cell? ⟨gb269, 5, none⟩ = some (.int .u64 a0_5) := (blk_cell BK269.out 5).trans rfl; have hfz50_0 := blk_frozen BK269.out 0; have hfz50_1 := blk_frozen BK269.out 1; have hfz50_2 := blk_frozen BK269.out 2; have hfz50_3 := blk_frozen BK269.out 3; have hfz50_4 := blk_frozen BK269.out 4; have hfz50_5 := blk_frozen BK269.out 5) | ((with_reducible refine gate_callee (f := 12) rfl ?_); refine goesL_ (some 14) rfl rfl Try.func12 (by kernel_rfl) rfl #[.agg #[.int .i64 a0_0, .int .i64 a0_1, .int .i64 a0_2, .int .i64 a0_3, .slice A0_4 l0_4.length c0_4, .int .u64 a0_5]] rfl (by (try simp only [List.map_toArray, List.map_cons, List.map_nil]); first | done | rfl | (simp only [List.length_drop, List.length_take]; rfl)) ?_; (with_reducible refine (kind_Gives.calls k a0_0 a0_1 a0_2 a0_3 _ _ l0_4 a0_5 t271 t272 _ ?side1 ?side2 A8.out).mono ?_); (case side1 => repeat (first | exact (Kd.C_below HR0_4.out HB.out) | (with_reducible refine Kd.C_alloc ?_ _) | (with_reducible refine Kd.C_drewN ?_ _) | (with_reducible refine Kd.C_drew ?_))); (case side2 => exact HC0_4.out); rintro e w51 ⟨rfl, hb⟩; refine ⟨_, rfl, ?_⟩; have n0_ := Aside0.mk (blk_below (g := gb269) (o := .cells #[.int .i64 a0_0, .int .i64 a0_1, .int .i64 a0_2, .int .i64 a0_3, .slice A0_4 l0_4.length c0_4, .int .u64 a0_5] 27 (0, 0)) (by (with_reducible repeat (first | refine blk_drewN ?_ _ | refine blk_drew ?_ | refine blk_alloc ?_ _)); exact BK269.out) hb); have n1_ := Aside0.mk (below_step (B1_) hb); clear BK269; clear HB; have BK269 := n0_; have HB := n1_; clear n0_ n1_; (try clear hb); (try clear hb2); (try clear hk); (try clear hi); have hcz52_0 : w51.cell? ⟨gb269, 0, none⟩ = some (.int .i64 a0_0) := (blk_cell BK269.out 0).trans rfl; have hcz52_1 : w51.cell? ⟨gb269, 1, none⟩ = some (.int .i64 a0_1) := (blk_cell BK269.out 1).trans rfl; have hcz52_2 : w51.cell? ⟨gb269, 2, none⟩ = some (.int .i64 a0_2) := (blk_cell BK269.out 2).trans rfl; have hcz52_3 : w51.cell? ⟨gb269, 3, none⟩ = some (.int .i64 a0_3) := (blk_cell BK269.out 3).trans rfl; have hcz52_4 : w51.cell? ⟨gb269, 4, none⟩ = some (.slice A0_4 l0_4.length c0_4) := (blk_cell BK269.out 4).trans rfl; have hcz52_5 : w51.cell? ⟨gb269, 5, none⟩ = some (.int .u64 a0_5) := (blk_cell BK269.out 5).trans rfl; have hfz52_0 := blk_frozen BK269.out 0; have hfz52_1 := blk_frozen BK269.out 1; have hfz52_2 := blk_frozen BK269.out 2; have hfz52_3 := blk_frozen BK269.out 3; have hfz52_4 := blk_frozen BK269.out 4; have hfz52_5 := blk_frozen BK269.out 5) | ((with_reducible refine gate_callee (f := 11) rfl ?_); refine goesL_ (some 18) rfl rfl Try.func11 (by kernel_rfl) rfl #[.agg #[.int .i64 a0_0, .int .i64 a0_1, .int .i64 a0_2, .int .i64 a0_3, .slice A0_4 l0_4.length c0_4, .int .u64 a0_5]] rfl (by (try simp only [List.map_toArray, List.map_cons, List.map_nil]); first | done | rfl | (simp only [List.length_drop, List.length_take]; rfl)) ?_; (with_reducible refine (kind_May.calls k a0_0 a0_1 a0_2 a0_3 _ _ l0_4 a0_5 false _ ?side1 ?side2 A9.out).mono ?_); (case side1 => repeat (first | exact (Kd.C_below HR0_4.out HB.out) | (with_reducible refine Kd.C_alloc ?_ _) | (with_reducible refine Kd.C_drewN ?_ _) | (with_reducible refine Kd.C_drew ?_))); (case side2 => exact HC0_4.out); rintro e w53 ⟨rfl, hb⟩; refine ⟨_, rfl, ?_⟩; have n0_ := Aside0.mk (blk_below (g := gb269) (o := .cells #[.int .i64 a0_0, .int .i64 a0_1, .int .i64 a0_2, .int .i64 a0_3, .slice A0_4 l0_4.length c0_4, .int .u64 a0_5] 27 (0, 0)) (by (with_reducible repeat (first | refine blk_drewN ?_ _ | refine blk_drew ?_ | refine blk_alloc ?_ _)); exact BK269.out) hb); have n1_ := Aside0.mk (below_step (B1_) hb); clear BK269; clear HB; have BK269 := n0_; have HB := n1_; clear n0_ n1_; (try clear hb); (try clear hb2); (try clear hk); (try clear hi); have hcz54_0 : w53.cell? ⟨gb269, 0, none⟩ = some (.int .i64 a0_0) := (blk_cell BK269.out 0).trans rfl; have hcz54_1 : w53.cell? ⟨gb269, 1, none⟩ = some (.int .i64 a0_1) := (blk_cell BK269.out 1).trans rfl; have hcz54_2 : w53.cell? ⟨gb269, 2, none⟩ = some (.int .i64 a0_2) := (blk_cell BK269.out 2).trans rfl; have hcz54_3 : w53.cell? ⟨gb269, 3, none⟩ = some (.int .i64 a0_3) := (blk_cell BK269.out 3).trans rfl; have hcz54_4 : w53.cell? ⟨gb269, 4, none⟩ = some (.slice A0_4 l0_4.length c0_4) := (blk_cell BK269.out 4).trans rfl; have hcz54_5 : w53.cell? ⟨gb269, 5, none⟩ = some (.int .u64 a0_5) := (blk_cell BK269.out 5).trans rfl; have hfz54_0 := blk_frozen BK269.out 0; have hfz54_1 := blk_frozen BK269.out 1; have hfz54_2 := blk_frozen BK269.out 2; have hfz54_3 := blk_frozen BK269.out 3; have hfz54_4 := blk_frozen BK269.out 4; have hfz54_5 := blk_frozen BK269.out 5) | (go_at_call 16; (with_reducible refine (kind_Takes.calls k a0_0 a0_1 a0_2 a0_3 _ _ l0_4 a0_5 t277 _ ?side1 ?side2 A47.out).mono ?_); (case side1 => repeat (first | exact (Kd.C_below HR0_4.out HB.out) | (with_reducible refine Kd.C_alloc ?_ _) | (with_reducible refine Kd.C_drewN ?_ _) | (with_reducible refine Kd.C_drew ?_))); (case side2 => exact HC0_4.out); rintro e w55 ⟨v278, rfl, ho0, hb⟩; have n0_ := Aside0.mk (Kd.R_lower ho0 (below_size (B1_))); have n1_ := Aside0.mk (blk_below (g := gb269) (o := .cells #[.int .i64 a0_0, .int .i64 a0_1, .int .i64 a0_2, .int .i64 a0_3, .slice A0_4 l0_4.length c0_4, .int .u64 a0_5] 27 (0, 0)) (by (with_reducible repeat (first | refine blk_drewN ?_ _ | refine blk_drew ?_ | refine blk_alloc ?_ _)); exact BK269.out) hb); have n2_ := Aside0.mk (below_step (B1_) hb); clear BK269; clear HB; have HO279 := n0_; have BK269 := n1_; have HB := n2_; clear n0_ n1_ n2_; (try clear hb); (try clear hb2); (try clear hk); (try clear hi); (try clear ho0); obtain ⟨Ao56, co56, eo56⟩ := Kd.R_slice HO279.out; subst eo56))
    all_goals first | (exfalso; simp_all; done) | (go_ret; exact ⟨by first | rfl | (have h_ := HR_.out; simp [h_]; done) | (have h_ := HR_.out; simp_all; done) | exact congrArg (fun b => Ending.returned (Value.bool b)) HR_.out | (simp [errW_none, errW_some] <;> rfl) | (simp [*, errW_none, errW_some] <;> rfl), B1_⟩)
   rw [if_neg c46] at H
   have c46b0 : (t272 == 0) = false := beq_eq_false_iff_ne.mpr c46
   have c46b1 : (t272 != 0) = true := bne_iff_ne.mpr c46
   exact absurd H (by simp)
  rw [if_neg c45] at H
  have c45b0 : (t271 == 0) = false := beq_eq_false_iff_ne.mpr c45
  have c45b1 : (t271 != 0) = true := bne_iff_ne.mpr c45
  exact absurd H (by simp)
 replace c3 := Bool.eq_false_iff.mpr c3
 subst c3
 have H1 : (some false) = some true := by rw [if_neg (show ¬ (false = true) by decide)] at H; exact H
 clear H
 have H := H1
 clear H1
 exact absurd H (by simp)

/-- THE ONE PURE STATEMENT of locksteplaw03_KindGives: yours. -/
def locksteplaw03_KindGives.Pure : Prop := ∀ (a0_0 : Int) (a0_1 : Int) (a0_2 : Int) (a0_3 : Int) (l0_4 : List Int) (a0_5 : Int), (Lit.int .i64 a0_0).wf = true → (Lit.int .i64 a0_1).wf = true → (Lit.int .i64 a0_2).wf = true → (Lit.int .i64 a0_3).wf = true → (Lit.int .u64 a0_5).wf = true → l0_4.length ≤ maxLen → (∀ x ∈ l0_4, (Lit.int .i64 x).wf = true) → ∃ k, locksteplaw03_KindGives.f k a0_0 a0_1 a0_2 a0_3 l0_4 a0_5 = some true
theorem locksteplaw03_KindGives.walk (P : locksteplaw03_KindGives.Pure) (a0_0 a0_1 a0_2 a0_3 : Int) (A0_4 : Option Addr) (c0_4 : Nat) (l0_4 : List Int) (a0_5 : Int) (w : World) (w0_0 : (Lit.int .i64 a0_0).wf = true) (w0_1 : (Lit.int .i64 a0_1).wf = true) (w0_2 : (Lit.int .i64 a0_2).wf = true) (w0_3 : (Lit.int .i64 a0_3).wf = true) (w0_5 : (Lit.int .u64 a0_5).wf = true) (w0_4 : Kd.C (Kd.int .i64) w A0_4 l0_4.length l0_4) (y0_4 : l0_4.length ≤ c0_4) (m0_4 : l0_4.length ≤ maxLen) (n0_4 : ∀ x ∈ l0_4, (Lit.int .i64 x).wf = true) :
 Calls Try.prog 7 #[.agg #[.int .i64 a0_0, .int .i64 a0_1, .int .i64 a0_2, .int .i64 a0_3, .slice A0_4 l0_4.length c0_4, .int .u64 a0_5]] w fun e w' => e = .returned (.bool true) ∧ Below w.heap.size w w' := by
 obtain ⟨k, h⟩ := P a0_0 a0_1 a0_2 a0_3 l0_4 a0_5 w0_0 w0_1 w0_2 w0_3 w0_5 m0_4 n0_4
 refine (locksteplaw03_KindGives.calls k a0_0 a0_1 a0_2 a0_3 A0_4 c0_4 l0_4 a0_5 w w0_4 y0_4 h).mono ?_
 rintro e w' ⟨rfl, hd⟩
 exact ⟨rfl, hd⟩

end Go.Proofs.Ytblhphjdjpodcaa.Q
