/- Texts of this session, joined by wip/tools/merge.py. Conditions: each theorem's own. -/
import Derived.Test.YtblhphjdjpodcaaQx0
import Derived.Test.YtblhphjdjpodcaaMKindLooksc
import Derived.Test.YtblhphjdjpodcaaMKindLooksb
import Derived.Test.YtblhphjdjpodcaaRows
import Derived.WalkKit
import Derived.ProofKit
import Derived.OpenShut
import Derived.ShutString
import Derived.ChangeOld
import Derived.Below
import Derived.SizedLaws
import Derived.Test.YtblhphjdjpodcaaWSized
namespace Go.Proofs.Ytblhphjdjpodcaa.Q
open Go.Proofs.YtblhphjdjpodcaaH
open Go.RowKit Go.Proofs.YtblhphjdjpodcaaW.PrintWords Go.Proofs.YtblhphjdjpodcaaW.PrintLast Go.Proofs.YtblhphjdjpodcaaW.PrintMore
attribute [local go_sem] max2_int min2_int max_two min_two max_three min_three max_four min_four   -- for this text's walks alone
set_option linter.unusedVariables false
set_option linter.unusedSimpArgs false

/-! ### locksteplaw03_KindLooks: function 5 -/
def locksteplaw03_KindLooks.f (k : Nat) (a0_0 : Int) (a0_1 : Int) (a0_2 : Int) (a0_3 : Int) (l0_4 : List Int) (a0_5 : Int) : Option (Bool) := (locksteplaw03_awake.f k).bind fun t236 => (if t236 = true then (if (l0_4.length : Int) > 100 then (some true) else ((kind_Gives.f k a0_0 a0_1 a0_2 a0_3 l0_4 a0_5).bind fun bt237 => ((lockstepref03_Gives.f k a0_0 a0_1 a0_2 a0_3 l0_4 a0_5).bind fun bt239 => ((kind_May.f k a0_0 a0_1 a0_2 a0_3 l0_4 a0_5).bind fun t241 => ((lockstepref03_May.f k a0_0 a0_1 a0_2 a0_3 l0_4 a0_5).bind fun t242 => (if (t241 == t242) = true then ((kind_Takes.f k a0_0 a0_1 a0_2 a0_3 l0_4 a0_5).bind fun t243 => ((lockstepref03_Takes.f k a0_0 a0_1 a0_2 a0_3 l0_4 a0_5).bind fun t246 => ((locksteplaw03_shapes.f k t243 t246).bind fun t249 => (if t249 = true then (if bt237.1 = bt239.1 then (if bt237.2 = bt239.2 then ((kind_Shape.f a0_1 a0_2).bind fun t250 => ((lockstepref03_Shape.f a0_1 a0_2).bind fun t251 => (if (t250 == t251) = true then ((kind_Pure.f a0_0).bind fun t252 => ((lockstepref03_Pure.f a0_0).bind fun t253 => (some (t252 == t253)))) else (some false)))) else (some false)) else (some false)) else (some false))))) else (some false))))))) else (some false))
theorem locksteplaw03_KindLooks.mono : ∀ a0 a1 a2 a3 a4 a5 k, LeO (locksteplaw03_KindLooks.f k a0 a1 a2 a3 a4 a5) (locksteplaw03_KindLooks.f (k + 1) a0 a1 a2 a3 a4 a5) := by
 intro a0 a1 a2 a3 a4 a5 k
 unfold locksteplaw03_KindLooks.f
 repeat' first
  | (with_reducible exact kind_Gives.mono _ _ _ _ _ _ _)
  | (with_reducible exact kind_May.mono _ _ _ _ _ _ _)
  | (with_reducible exact kind_Takes.mono _ _ _ _ _ _ _)
  | (with_reducible exact locksteplaw03_awake.mono _)
  | (with_reducible exact locksteplaw03_shapes.mono _ _ _)
  | (with_reducible exact lockstepref03_Gives.mono _ _ _ _ _ _ _)
  | (with_reducible exact lockstepref03_May.mono _ _ _ _ _ _ _)
  | (with_reducible exact lockstepref03_Takes.mono _ _ _ _ _ _ _)
  | (with_reducible exact LeO.refl _)
  | (with_reducible exact LeO.none _)
  | (with_reducible refine LeO.ite ?_ ?_)
  | (with_reducible refine LeO.bind ?_ (fun _ => ?_))
  | exact kind_Gives.mono _ _ _ _ _ _ _
  | exact kind_May.mono _ _ _ _ _ _ _
  | exact kind_Takes.mono _ _ _ _ _ _ _
  | exact locksteplaw03_awake.mono _
  | exact locksteplaw03_shapes.mono _ _ _
  | exact lockstepref03_Gives.mono _ _ _ _ _ _ _
  | exact lockstepref03_May.mono _ _ _ _ _ _ _
  | exact lockstepref03_Takes.mono _ _ _ _ _ _ _
  | exact LeO.none _
  | refine LeO.ite ?_ ?_
  | refine LeO.bind ?_ (fun _ => ?_)
def locksteplaw03_KindLooks.T7 : Bool × List (List Nat × List Nat) := (true, [([], []), ([0], [0]), ([], []), ([2, 1], [2]), ([1, 3], [1, 3]), ([4, 3], [4]), ([5], [5]), ([6, 5, 5], [5, 6]), ([5], [5]), ([8, 7, 5], [5, 8]), ([7, 9, 9, 5], [5, 7, 9]), ([5, 10], [5, 10]), ([11, 10], [11]), ([12], [12]), ([12], [12]), ([13, 14, 12], [12, 13, 14]), ([12, 15], [12, 15]), ([16, 12], [16]), ([17], [17]), ([17], [17]), ([18, 19, 17], [17, 18, 19]), ([17, 20], [17, 20]), ([21, 17], [21]), ([22], [22]), ([23, 22], [22, 23]), ([22], [22]), ([25, 22], [22, 25]), ([24, 26, 22, 22], [22, 24, 26]), ([22], [22]), ([28, 22], [22, 28]), ([22], [22]), ([30, 22], [22, 30]), ([29, 31, 27, 22], [22, 29, 31]), ([27, 32, 22], [22, 27, 32]), ([22, 33], [22, 33]), ([34, 32], [34]), ([35], [35]), ([36, 35], [35, 36]), ([37, 35, 35], [35, 37]), ([35], [35]), ([39, 35], [35, 39]), ([40, 38, 35], [35, 40]), ([38, 41, 35], [35, 38, 41]), ([35, 42], [35, 42]), ([43, 41, 0, 1, 2, 3, 4, 5, 6, 7, 8, 9, 10, 11, 12, 13, 14, 15, 16, 17, 18, 19, 20, 21, 22, 23, 24, 25, 26, 27, 28, 29, 30, 31, 32, 33, 34, 35, 36, 37, 38, 39, 40, 41, 42, 43], [43])])
def locksteplaw03_KindLooks.B7 : List Nat := [0, 1, 0, 7, 15, 31, 63, 127, 63, 511, 1023, 2047, 4095, 8191, 8191, 32767, 65535, 131071, 262143, 262143, 1048575, 2097151, 4194303, 8388607, 16777215, 8388607, 41943039, 134217727, 8388607, 276824063, 8388607, 1082130431, 4294967295, 8589934591, 17179869183, 34359738367, 68719476735, 137438953471, 274877906943, 68719476735, 618475290623, 2199023255551, 4398046511103, 8796093022207, 17592186044415]
theorem locksteplaw03_KindLooks.tab7 : rtab .any (opsOf Try.f5 7) = locksteplaw03_KindLooks.T7 := by kernel_rfl
theorem locksteplaw03_KindLooks.bits7 : waitsOk locksteplaw03_KindLooks.T7.2 locksteplaw03_KindLooks.B7 = true := by kernel_rfl
set_option maxHeartbeats 8000000 in
set_option maxRecDepth 100000 in
theorem locksteplaw03_KindLooks.calls (k : Nat) (a0_0 : Int) (a0_1 : Int) (a0_2 : Int) (a0_3 : Int) (A0_4 : Option Addr) (c0_4 : Nat) (l0_4 : List Int) (a0_5 : Int) (w : World) (hr0_4 : Kd.C (Kd.int .i64) w A0_4 l0_4.length l0_4) (hc0_4 : l0_4.length ≤ c0_4) (h : locksteplaw03_KindLooks.f k a0_0 a0_1 a0_2 a0_3 l0_4 a0_5 = some true) :
 Calls Try.prog 5 #[.agg #[.int .i64 a0_0, .int .i64 a0_1, .int .i64 a0_2, .int .i64 a0_3, .slice A0_4 l0_4.length c0_4, .int .u64 a0_5]] w fun e w' => e = .returned (.bool true) ∧ Below w.heap.size w w' := by
 have hu27 := Try.underlying27
 have HR0_4 := Aside0.mk hr0_4
 have HC0_4 := Aside0.mk hc0_4
 clear hr0_4 hc0_4
 have HB := Aside0.mk (Below.refl w.heap.size w)
 have H : ((locksteplaw03_awake.f k).bind fun t236 => (if t236 = true then (if (l0_4.length : Int) > 100 then (some true) else ((kind_Gives.f k a0_0 a0_1 a0_2 a0_3 l0_4 a0_5).bind fun bt237 => ((lockstepref03_Gives.f k a0_0 a0_1 a0_2 a0_3 l0_4 a0_5).bind fun bt239 => ((kind_May.f k a0_0 a0_1 a0_2 a0_3 l0_4 a0_5).bind fun t241 => ((lockstepref03_May.f k a0_0 a0_1 a0_2 a0_3 l0_4 a0_5).bind fun t242 => (if (t241 == t242) = true then ((kind_Takes.f k a0_0 a0_1 a0_2 a0_3 l0_4 a0_5).bind fun t243 => ((lockstepref03_Takes.f k a0_0 a0_1 a0_2 a0_3 l0_4 a0_5).bind fun t246 => ((locksteplaw03_shapes.f k t243 t246).bind fun t249 => (if t249 = true then (if bt237.1 = bt239.1 then (if bt237.2 = bt239.2 then ((kind_Shape.f a0_1 a0_2).bind fun t250 => ((lockstepref03_Shape.f a0_1 a0_2).bind fun t251 => (if (t250 == t251) = true then ((kind_Pure.f a0_0).bind fun t252 => ((lockstepref03_Pure.f a0_0).bind fun t253 => (some (t252 == t253)))) else (some false)))) else (some false)) else (some false)) else (some false))))) else (some false))))))) else (some false))) = some true := h
 clear h
 replace H := Option.bind_eq_some_iff.mp H
 obtain ⟨t236, A20, H⟩ := H
 replace H : (if t236 = true then (if (l0_4.length : Int) > 100 then (some true) else ((kind_Gives.f k a0_0 a0_1 a0_2 a0_3 l0_4 a0_5).bind fun bt237 => ((lockstepref03_Gives.f k a0_0 a0_1 a0_2 a0_3 l0_4 a0_5).bind fun bt239 => ((kind_May.f k a0_0 a0_1 a0_2 a0_3 l0_4 a0_5).bind fun t241 => ((lockstepref03_May.f k a0_0 a0_1 a0_2 a0_3 l0_4 a0_5).bind fun t242 => (if (t241 == t242) = true then ((kind_Takes.f k a0_0 a0_1 a0_2 a0_3 l0_4 a0_5).bind fun t243 => ((lockstepref03_Takes.f k a0_0 a0_1 a0_2 a0_3 l0_4 a0_5).bind fun t246 => ((locksteplaw03_shapes.f k t243 t246).bind fun t249 => (if t249 = true then (if bt237.1 = bt239.1 then (if bt237.2 = bt239.2 then ((kind_Shape.f a0_1 a0_2).bind fun t250 => ((lockstepref03_Shape.f a0_1 a0_2).bind fun t251 => (if (t250 == t251) = true then ((kind_Pure.f a0_0).bind fun t252 => ((lockstepref03_Pure.f a0_0).bind fun t253 => (some (t252 == t253)))) else (some false)))) else (some false)) else (some false)) else (some false))))) else (some false))))))) else (some false)) = some true := H
 have A2 := Aside0.mk A20
 clear A20
 by_cases c3 : t236 = true
 ·subst c3
  have H1 : (if (l0_4.length : Int) > 100 then (some true) else ((kind_Gives.f k a0_0 a0_1 a0_2 a0_3 l0_4 a0_5).bind fun bt237 => ((lockstepref03_Gives.f k a0_0 a0_1 a0_2 a0_3 l0_4 a0_5).bind fun bt239 => ((kind_May.f k a0_0 a0_1 a0_2 a0_3 l0_4 a0_5).bind fun t241 => ((lockstepref03_May.f k a0_0 a0_1 a0_2 a0_3 l0_4 a0_5).bind fun t242 => (if (t241 == t242) = true then ((kind_Takes.f k a0_0 a0_1 a0_2 a0_3 l0_4 a0_5).bind fun t243 => ((lockstepref03_Takes.f k a0_0 a0_1 a0_2 a0_3 l0_4 a0_5).bind fun t246 => ((locksteplaw03_shapes.f k t243 t246).bind fun t249 => (if t249 = true then (if bt237.1 = bt239.1 then (if bt237.2 = bt239.2 then ((kind_Shape.f a0_1 a0_2).bind fun t250 => ((lockstepref03_Shape.f a0_1 a0_2).bind fun t251 => (if (t250 == t251) = true then ((kind_Pure.f a0_0).bind fun t252 => ((lockstepref03_Pure.f a0_0).bind fun t253 => (some (t252 == t253)))) else (some false)))) else (some false)) else (some false)) else (some false))))) else (some false))))))) = some true := by rw [if_pos rfl] at H; exact H
  clear H
  have H := H1
  clear H1
  by_cases c4 : (l0_4.length : Int) > 100
  ·rw [if_pos c4] at H
   have c4b0 : decide (100 < (l0_4.length : Int)) = true := decide_eq_true c4
   have c4b1 : decide (100 < l0_4.length) = true := decide_eq_true (by omega)
   clear c4
   clear H
   go_enter Try.func5, Try.ntmps5
   go_wp2_with (first | ((with_reducible refine gate_dst (N := 1) rfl ?_); refine box_event ?hg (N := 1) ?hd (cs := #[.int .i64 a0_0, .int .i64 a0_1, .int .i64 a0_2, .int .i64 a0_3, .slice A0_4 l0_4.length c0_4, .int .u64 a0_5]) (t := 27) ?hr ?_; (case hd => rfl); (case hg => rfl); (case hr => first | (go_simp; done) | (go_simp; rfl)); intro gb235 hg w5 hbox hb; have n0_ := Aside0.mk (below_step (B_) hb); have n1_ := Aside0.mk (hbox); have n2_ := Aside0.mk ((by rw [hg]; exact (below_size (B_)) : w.heap.size ≤ gb235)); have n3_ := Aside0.mk ((by rw [hg]; exact (below_size (B_)) : w.heap.size ≤ gb235)); clear HB; have HB := n0_; have BK235 := n1_; have GW235 := n2_; have GE235 := n3_; clear n0_ n1_ n2_ n3_; clear hb hbox hg) | ((with_reducible refine gate_callee (f := 9) rfl ?_); refine goesL_ (some 7) rfl rfl Try.func9 (by kernel_rfl) rfl #[] rfl (by (try simp only [List.map_toArray, List.map_cons, List.map_nil]); first | done | rfl | (simp only [List.length_drop, List.length_take]; rfl)) ?_; (with_reducible refine (locksteplaw03_awake.calls k   _ A2.out).mono ?_); rintro e w6 ⟨rfl, hb⟩; refine ⟨_, rfl, ?_⟩; have n0_ := Aside0.mk (blk_below (g := gb235) (o := .cells #[.int .i64 a0_0, .int .i64 a0_1, .int .i64 a0_2, .int .i64 a0_3, .slice A0_4 l0_4.length c0_4, .int .u64 a0_5] 27 (0, 0)) (by (with_reducible repeat (first | refine blk_drewN ?_ _ | refine blk_drew ?_ | refine blk_alloc ?_ _)); exact BK235.out) hb); have n1_ := Aside0.mk (below_step (B1_) hb); clear BK235; clear HB; have BK235 := n0_; have HB := n1_; clear n0_ n1_; (try clear hb); (try clear hb2); (try clear hk); (try clear hi); have hcz7_0 : w6.cell? ⟨gb235, 0, none⟩ = some (.int .i64 a0_0) := (blk_cell BK235.out 0).trans rfl; have hcz7_1 : w6.cell? ⟨gb235, 1, none⟩ = some (.int .i64 a0_1) := (blk_cell BK235.out 1).trans rfl; have hcz7_2 : w6.cell? ⟨gb235, 2, none⟩ = some (.int .i64 a0_2) := (blk_cell BK235.out 2).trans rfl; have hcz7_3 : w6.cell? ⟨gb235, 3, none⟩ = some (.int .i64 a0_3) := (blk_cell BK235.out 3).trans rfl; have hcz7_4 : w6.cell? ⟨gb235, 4, none⟩ = some (.slice A0_4 l0_4.length c0_4) := (blk_cell BK235.out 4).trans rfl; have hcz7_5 : w6.cell? ⟨gb235, 5, none⟩ = some (.int .u64 a0_5) := (blk_cell BK235.out 5).trans rfl; have hfz7_0 := blk_frozen BK235.out 0; have hfz7_1 := blk_frozen BK235.out 1; have hfz7_2 := blk_frozen BK235.out 2; have hfz7_3 := blk_frozen BK235.out 3; have hfz7_4 := blk_frozen BK235.out 4; have hfz7_5 := blk_frozen BK235.out 5))
   go_ret
   exact ⟨by first | rfl | exact congrArg (fun b => Ending.returned (Value.bool b)) HR_.out | (simp [errW_none, errW_some] <;> rfl) | (simp [*, errW_none, errW_some] <;> rfl), B1_⟩
  rw [if_neg c4] at H
  have c4b0 : decide (100 < (l0_4.length : Int)) = false := decide_eq_false c4
  have c4b1 : decide (100 < l0_4.length) = false := decide_eq_false (by omega)
  clear c4
  replace H := Option.bind_eq_some_iff.mp H
  obtain ⟨⟨t237, t238⟩, A80, H⟩ := H
  replace H : ((lockstepref03_Gives.f k a0_0 a0_1 a0_2 a0_3 l0_4 a0_5).bind fun bt239 => ((kind_May.f k a0_0 a0_1 a0_2 a0_3 l0_4 a0_5).bind fun t241 => ((lockstepref03_May.f k a0_0 a0_1 a0_2 a0_3 l0_4 a0_5).bind fun t242 => (if (t241 == t242) = true then ((kind_Takes.f k a0_0 a0_1 a0_2 a0_3 l0_4 a0_5).bind fun t243 => ((lockstepref03_Takes.f k a0_0 a0_1 a0_2 a0_3 l0_4 a0_5).bind fun t246 => ((locksteplaw03_shapes.f k t243 t246).bind fun t249 => (if t249 = true then (if t237 = bt239.1 then (if t238 = bt239.2 then ((kind_Shape.f a0_1 a0_2).bind fun t250 => ((lockstepref03_Shape.f a0_1 a0_2).bind fun t251 => (if (t250 == t251) = true then ((kind_Pure.f a0_0).bind fun t252 => ((lockstepref03_Pure.f a0_0).bind fun t253 => (some (t252 == t253)))) else (some false)))) else (some false)) else (some false)) else (some false))))) else (some false))))) = some true := H
  have A8 := Aside0.mk A80
  clear A80
  replace H := Option.bind_eq_some_iff.mp H
  obtain ⟨⟨t239, t240⟩, A90, H⟩ := H
  replace H : ((kind_May.f k a0_0 a0_1 a0_2 a0_3 l0_4 a0_5).bind fun t241 => ((lockstepref03_May.f k a0_0 a0_1 a0_2 a0_3 l0_4 a0_5).bind fun t242 => (if (t241 == t242) = true then ((kind_Takes.f k a0_0 a0_1 a0_2 a0_3 l0_4 a0_5).bind fun t243 => ((lockstepref03_Takes.f k a0_0 a0_1 a0_2 a0_3 l0_4 a0_5).bind fun t246 => ((locksteplaw03_shapes.f k t243 t246).bind fun t249 => (if t249 = true then (if t237 = t239 then (if t238 = t240 then ((kind_Shape.f a0_1 a0_2).bind fun t250 => ((lockstepref03_Shape.f a0_1 a0_2).bind fun t251 => (if (t250 == t251) = true then ((kind_Pure.f a0_0).bind fun t252 => ((lockstepref03_Pure.f a0_0).bind fun t253 => (some (t252 == t253)))) else (some false)))) else (some false)) else (some false)) else (some false))))) else (some false)))) = some true := H
  have A9 := Aside0.mk A90
  clear A90
  replace H := Option.bind_eq_some_iff.mp H
  obtain ⟨t241, A100, H⟩ := H
  replace H : ((lockstepref03_May.f k a0_0 a0_1 a0_2 a0_3 l0_4 a0_5).bind fun t242 => (if (t241 == t242) = true then ((kind_Takes.f k a0_0 a0_1 a0_2 a0_3 l0_4 a0_5).bind fun t243 => ((lockstepref03_Takes.f k a0_0 a0_1 a0_2 a0_3 l0_4 a0_5).bind fun t246 => ((locksteplaw03_shapes.f k t243 t246).bind fun t249 => (if t249 = true then (if t237 = t239 then (if t238 = t240 then ((kind_Shape.f a0_1 a0_2).bind fun t250 => ((lockstepref03_Shape.f a0_1 a0_2).bind fun t251 => (if (t250 == t251) = true then ((kind_Pure.f a0_0).bind fun t252 => ((lockstepref03_Pure.f a0_0).bind fun t253 => (some (t252 == t253)))) else (some false)))) else (some false)) else (some false)) else (some false))))) else (some false))) = some true := H
  have A10 := Aside0.mk A100
  clear A100
  replace H := Option.bind_eq_some_iff.mp H
  obtain ⟨t242, A110, H⟩ := H
  replace H : (if (t241 == t242) = true then ((kind_Takes.f k a0_0 a0_1 a0_2 a0_3 l0_4 a0_5).bind fun t243 => ((lockstepref03_Takes.f k a0_0 a0_1 a0_2 a0_3 l0_4 a0_5).bind fun t246 => ((locksteplaw03_shapes.f k t243 t246).bind fun t249 => (if t249 = true then (if t237 = t239 then (if t238 = t240 then ((kind_Shape.f a0_1 a0_2).bind fun t250 => ((lockstepref03_Shape.f a0_1 a0_2).bind fun t251 => (if (t250 == t251) = true then ((kind_Pure.f a0_0).bind fun t252 => ((lockstepref03_Pure.f a0_0).bind fun t253 => (some (t252 == t253)))) else (some false)))) else (some false)) else (some false)) else (some false))))) else (some false)) = some true := H
  have A11 := Aside0.mk A110
  clear A110
  by_cases c12 : (t241 == t242) = true
  ·rw [if_pos c12] at H
   have c12b0 : (t241 == t242) = true := c12
   (try (have c12b1 : decide (t241 = t242) = true := by simpa using c12))
   (try (have c12b2 : (t241 == t242) = true := by simpa using c12))
   clear c12
   replace H := Option.bind_eq_some_iff.mp H
   obtain ⟨t243, A130, H⟩ := H
   replace H : ((lockstepref03_Takes.f k a0_0 a0_1 a0_2 a0_3 l0_4 a0_5).bind fun t246 => ((locksteplaw03_shapes.f k t243 t246).bind fun t249 => (if t249 = true then (if t237 = t239 then (if t238 = t240 then ((kind_Shape.f a0_1 a0_2).bind fun t250 => ((lockstepref03_Shape.f a0_1 a0_2).bind fun t251 => (if (t250 == t251) = true then ((kind_Pure.f a0_0).bind fun t252 => ((lockstepref03_Pure.f a0_0).bind fun t253 => (some (t252 == t253)))) else (some false)))) else (some false)) else (some false)) else (some false)))) = some true := H
   have A13 := Aside0.mk A130
   clear A130
   replace H := Option.bind_eq_some_iff.mp H
   obtain ⟨t246, A140, H⟩ := H
   replace H : ((locksteplaw03_shapes.f k t243 t246).bind fun t249 => (if t249 = true then (if t237 = t239 then (if t238 = t240 then ((kind_Shape.f a0_1 a0_2).bind fun t250 => ((lockstepref03_Shape.f a0_1 a0_2).bind fun t251 => (if (t250 == t251) = true then ((kind_Pure.f a0_0).bind fun t252 => ((lockstepref03_Pure.f a0_0).bind fun t253 => (some (t252 == t253)))) else (some false)))) else (some false)) else (some false)) else (some false))) = some true := H
   have A14 := Aside0.mk A140
   clear A140
   replace H := Option.bind_eq_some_iff.mp H
   obtain ⟨t249, A150, H⟩ := H
   replace H : (if t249 = true then (if t237 = t239 then (if t238 = t240 then ((kind_Shape.f a0_1 a0_2).bind fun t250 => ((lockstepref03_Shape.f a0_1 a0_2).bind fun t251 => (if (t250 == t251) = true then ((kind_Pure.f a0_0).bind fun t252 => ((lockstepref03_Pure.f a0_0).bind fun t253 => (some (t252 == t253)))) else (some false)))) else (some false)) else (some false)) else (some false)) = some true := H
   have A15 := Aside0.mk A150
   clear A150
   by_cases c16 : t249 = true
   ·subst c16
    have H1 : (if t237 = t239 then (if t238 = t240 then ((kind_Shape.f a0_1 a0_2).bind fun t250 => ((lockstepref03_Shape.f a0_1 a0_2).bind fun t251 => (if (t250 == t251) = true then ((kind_Pure.f a0_0).bind fun t252 => ((lockstepref03_Pure.f a0_0).bind fun t253 => (some (t252 == t253)))) else (some false)))) else (some false)) else (some false)) = some true := by rw [if_pos rfl] at H; exact H
    clear H
    have H := H1
    clear H1
    by_cases c17 : t237 = t239
    ·rw [if_pos c17] at H
     have c17b0 : (t237 == t239) = true := beq_iff_eq.mpr c17
     have c17b1 : (t237 != t239) = false := bne_eq_false_iff_eq.mpr c17
     clear c17
     by_cases c18 : t238 = t240
     ·rw [if_pos c18] at H
      have c18b0 : (t238 == t240) = true := beq_iff_eq.mpr c18
      have c18b1 : (t238 != t240) = false := bne_eq_false_iff_eq.mpr c18
      clear c18
      replace H := Option.bind_eq_some_iff.mp H
      obtain ⟨t250, A190, H⟩ := H
      replace H : ((lockstepref03_Shape.f a0_1 a0_2).bind fun t251 => (if (t250 == t251) = true then ((kind_Pure.f a0_0).bind fun t252 => ((lockstepref03_Pure.f a0_0).bind fun t253 => (some (t252 == t253)))) else (some false))) = some true := H
      have A19 := Aside0.mk A190
      clear A190
      replace H := Option.bind_eq_some_iff.mp H
      obtain ⟨t251, A200, H⟩ := H
      replace H : (if (t250 == t251) = true then ((kind_Pure.f a0_0).bind fun t252 => ((lockstepref03_Pure.f a0_0).bind fun t253 => (some (t252 == t253)))) else (some false)) = some true := H
      have A20 := Aside0.mk A200
      clear A200
      by_cases c21 : (t250 == t251) = true
      ·rw [if_pos c21] at H
       have c21b0 : (t250 == t251) = true := c21
       (try (have c21b1 : decide (t250 = t251) = true := by simpa using c21))
       (try (have c21b2 : (t250 == t251) = true := by simpa using c21))
       clear c21
       replace H := Option.bind_eq_some_iff.mp H
       obtain ⟨t252, A220, H⟩ := H
       replace H : ((lockstepref03_Pure.f a0_0).bind fun t253 => (some (t252 == t253))) = some true := H
       have A22 := Aside0.mk A220
       clear A220
       replace H := Option.bind_eq_some_iff.mp H
       obtain ⟨t253, A230, H⟩ := H
       replace H : (some (t252 == t253)) = some true := H
       have A23 := Aside0.mk A230
       clear A230
       have HR_ := Aside0.mk (Option.some.inj H)
       clear H
       go_enter Try.func5, Try.ntmps5
       try go_wp2_with (first | ((with_reducible refine gate_dst (N := 1) rfl ?_); refine box_event ?hg (N := 1) ?hd (cs := #[.int .i64 a0_0, .int .i64 a0_1, .int .i64 a0_2, .int .i64 a0_3, .slice A0_4 l0_4.length c0_4, .int .u64 a0_5]) (t := 27) ?hr ?_; (case hd => rfl); (case hg => rfl); (case hr => first | (go_simp; done) | (go_simp; rfl)); intro gb235 hg w24 hbox hb; have n0_ := Aside0.mk (below_step (B_) hb); have n1_ := Aside0.mk (hbox); have n2_ := Aside0.mk ((by rw [hg]; exact (below_size (B_)) : w.heap.size ≤ gb235)); have n3_ := Aside0.mk ((by rw [hg]; exact (below_size (B_)) : w.heap.size ≤ gb235)); clear HB; have HB := n0_; have BK235 := n1_; have GW235 := n2_; have GE235 := n3_; clear n0_ n1_ n2_ n3_; clear hb hbox hg) | ((with_reducible refine gate_callee (f := 9) rfl ?_); refine goesL_ (some 7) rfl rfl Try.func9 (by kernel_rfl) rfl #[] rfl (by (try simp only [List.map_toArray, List.map_cons, List.map_nil]); first | done | rfl | (simp only [List.length_drop, List.length_take]; rfl)) ?_; (with_reducible refine (locksteplaw03_awake.calls k   _ A2.out).mono ?_); rintro e w25 ⟨rfl, hb⟩; refine ⟨_, rfl, ?_⟩; have n0_ := Aside0.mk (blk_below (g := gb235) (o := .cells #[.int .i64 a0_0, .int .i64 a0_1, .int .i64 a0_2, .int .i64 a0_3, .slice A0_4 l0_4.length c0_4, .int .u64 a0_5] 27 (0, 0)) (by (with_reducible repeat (first | refine blk_drewN ?_ _ | refine blk_drew ?_ | refine blk_alloc ?_ _)); exact BK235.out) hb); have n1_ := Aside0.mk (below_step (B1_) hb); clear BK235; clear HB; have BK235 := n0_; have HB := n1_; clear n0_ n1_; (try clear hb); (try clear hb2); (try clear hk); (try clear hi); have hcz26_0 : w25.cell? ⟨gb235, 0, none⟩ = some (.int .i64 a0_0) := (blk_cell BK235.out 0).trans rfl; have hcz26_1 : w25.cell? ⟨gb235, 1, none⟩ = some (.int .i64 a0_1) := (blk_cell BK235.out 1).trans rfl; have hcz26_2 : w25.cell? ⟨gb235, 2, none⟩ = some (.int .i64 a0_2) := (blk_cell BK235.out 2).trans rfl; have hcz26_3 : w25.cell? ⟨gb235, 3, none⟩ = some (.int .i64 a0_3) := (blk_cell BK235.out 3).trans rfl; have hcz26_4 : w25.cell? ⟨gb235, 4, none⟩ = some (.slice A0_4 l0_4.length c0_4) := (blk_cell BK235.out 4).trans rfl; have hcz26_5 : w25.cell? ⟨gb235, 5, none⟩ = some (.int .u64 a0_5) := (blk_cell BK235.out 5).trans rfl; have hfz26_0 := blk_frozen BK235.out 0; have hfz26_1 := blk_frozen BK235.out 1; have hfz26_2 := blk_frozen BK235.out 2; have hfz26_3 := blk_frozen BK235.out 3; have hfz26_4 := blk_frozen BK235.out 4; have hfz26_5 := blk_frozen BK235.out 5) | ((with_reducible refine gate_callee (f := 12) rfl ?_); refine goesL_ (some 15) rfl rfl Try.func12 (by kernel_rfl) rfl #[.agg #[.int .i64 a0_0, .int .i64 a0_1, .int .i64 a0_2, .int .i64 a0_3, .slice A0_4 l0_4.length c0_4, .int .u64 a0_5]] rfl (by (try simp only [List.map_toArray, List.map_cons, List.map_nil]); first | done | rfl | (simp only [List.length_drop, List.length_take]; rfl)) ?_; (with_reducible refine (kind_Gives.calls k a0_0 a0_1 a0_2 a0_3 _ _ l0_4 a0_5 t237 t238 _ ?side1 ?side2 A8.out).mono ?_); (case side1 => repeat (first | exact (Kd.C_below HR0_4.out HB.out) | (with_reducible refine Kd.C_alloc ?_ _) | (with_reducible refine Kd.C_drewN ?_ _) | (with_reducible refine Kd.C_drew ?_))); (case side2 => exact HC0_4.out); rintro e w27 ⟨rfl, hb⟩; refine ⟨_, rfl, ?_⟩; have n0_ := Aside0.mk (blk_below (g := gb235) (o := .cells #[.int .i64 a0_0, .int .i64 a0_1, .int .i64 a0_2, .int .i64 a0_3, .slice A0_4 l0_4.length c0_4, .int .u64 a0_5] 27 (0, 0)) (by (with_reducible repeat (first | refine blk_drewN ?_ _ | refine blk_drew ?_ | refine blk_alloc ?_ _)); exact BK235.out) hb); have n1_ := Aside0.mk (below_step (B1_) hb); clear BK235; clear HB; have BK235 := n0_; have HB := n1_; clear n0_ n1_; (try clear hb); (try clear hb2); (try clear hk); (try clear hi); have hcz28_0 : w27.cell? ⟨gb235, 0, none⟩ = some (.int .i64 a0_0) := (blk_cell BK235.out 0).trans rfl; have hcz28_1 : w27.cell? ⟨gb235, 1, none⟩ = some (.int .i64 a0_1) := (blk_cell BK235.out 1).trans rfl; have hcz28_2 : w27.cell? ⟨gb235, 2, none⟩ = some (.int .i64 a0_2) := (blk_cell BK235.out 2).trans rfl; have hcz28_3 : w27.cell? ⟨gb235, 3, none⟩ = some (.int .i64 a0_3) := (blk_cell BK235.out 3).trans rfl; have hcz28_4 : w27.cell? ⟨gb235, 4, none⟩ = some (.slice A0_4 l0_4.length c0_4) := (blk_cell BK235.out 4).trans rfl; have hcz28_5 : w27.cell? ⟨gb235, 5, none⟩ = some (.int .u64 a0_5) := (blk_cell BK235.out 5).trans rfl; have hfz28_0 := blk_frozen BK235.out 0; have hfz28_1 := blk_frozen BK235.out 1; have hfz28_2 := blk_frozen BK235.out 2; have hfz28_3 := blk_frozen BK235.out 3; have hfz28_4 := blk_frozen BK235.out 4; have hfz28_5 := blk_frozen BK235.out 5) | ((with_reducible refine gate_callee (f := 13) rfl ?_); refine goesL_ (some 20) rfl rfl Try.func13 (by kernel_rfl) rfl #[.agg #[.int .i64 a0_0, .int .i64 a0_1, .int .i64 a0_2, .int .i64 a0_3, .slice A0_4 l0_4.length c0_4, .int .u64 a0_5]] rfl (by (try simp only [List.map_toArray, List.map_cons, List.map_nil]); first | done | rfl | (simp only [List.length_drop, List.length_take]; rfl)) ?_; (with_reducible refine (lockstepref03_Gives.calls k a0_0 a0_1 a0_2 a0_3 _ _ l0_4 a0_5 t239 t240 _ ?side1 ?side2 A9.out).mono ?_); (case side1 => repeat (first | exact (Kd.C_below HR0_4.out HB.out) | (with_reducible refine Kd.C_alloc ?_ _) | (with_reducible refine Kd.C_drewN ?_ _) | (with_reducible refine Kd.C_drew ?_))); (case side2 => exact HC0_4.out); rintro e w29 ⟨rfl, hb⟩; refine ⟨_, rfl, ?_⟩; have n0_ := Aside0.mk (blk_below (g := gb235) (o := .cells #[.int .i64 a0_0, .int .i64 a0_1, .int .i64 a0_2, .int .i64 a0_3, .slice A0_4 l0_4.length c0_4, .int .u64 a0_5] 27 (0, 0)) (by (with_reducible repeat (first | refine blk_drewN ?_ _ | refine blk_drew ?_ | refine blk_alloc ?_ _)); exact BK235.out) hb); have n1_ := Aside0.mk (below_step (B1_) hb); clear BK235; clear HB; have BK235 := n0_; have HB := n1_; clear n0_ n1_; (try clear hb); (try clear hb2); (try clear hk); (try clear hi)))
       have n0_ := Aside0.mk (blk_drew BK235.out)
       have n1_ := Aside0.mk (below_drew1 HB.out)
       clear BK235
       clear HB
       have BK235 := n0_
       have HB := n1_
       clear n0_ n1_
       refine start_ (n := 45) (S := fun w' => w'.cell? ⟨gb235, 0, none⟩ = some (.int .i64 a0_0) ∧ w'.cell? ⟨gb235, 1, none⟩ = some (.int .i64 a0_1) ∧ w'.cell? ⟨gb235, 2, none⟩ = some (.int .i64 a0_2) ∧ w'.cell? ⟨gb235, 3, none⟩ = some (.int .i64 a0_3) ∧ w'.cell? ⟨gb235, 4, none⟩ = some (.slice A0_4 l0_4.length c0_4) ∧ w'.cell? ⟨gb235, 5, none⟩ = some (.int .u64 a0_5)) (ds := []) #[F_,F_,F_,F_,F_,F_,F_,F_,F_,F_,F_,F_,F_,F_,F_,F_,F_,F_,F_,F_,F_,F_,F_,F_,F_,F_,F_,F_,F_,F_,F_,F_,F_,F_,F_,F_,F_,F_,F_,F_,F_,F_,F_,F_,F_] (by kernel_rfl) rfl rfl ⟨(blk_cell BK235.out 0).trans rfl, (blk_cell BK235.out 1).trans rfl, (blk_cell BK235.out 2).trans rfl, (blk_cell BK235.out 3).trans rfl, (blk_cell BK235.out 4).trans rfl, (blk_cell BK235.out 5).trans rfl⟩ (fun hHeld => ?_); refine with_tabW locksteplaw03_KindLooks.tab7 locksteplaw03_KindLooks.bits7 (fun HT_ HW_ => ?_)
       generalize w29.drew = w30 at BK235 HB hHeld ⊢
       refine take_ (i := 0) (N := some 23) (v := ?_) (a' := ?_) #[T_,F_,F_,F_,F_,F_,F_,F_,F_,F_,F_,F_,F_,F_,F_,F_,F_,F_,F_,F_,F_,F_,F_,F_,F_,F_,F_,F_,F_,F_,F_,F_,F_,F_,F_,F_,F_,F_,F_,F_,F_,F_,F_,F_,F_] rfl rfl (take_ofW HT_.out HW_.out (by kernel_rfl)) (fun _ _ _ h => h) (Or.inl ⟨by rfl, ?_⟩) hHeld ?_ ?_
       rotate_left
       ·rintro w' ⟨s0, s1, s2, s3, s4, s5⟩
        go_simp
        with_reducible rfl
       rotate_left
       ·simp only [Act.put, List.setIfInBounds_toArray, List.set_cons_zero, List.set_cons_succ, i64_w, i32_w]
        rfl
       refine take_ (i := 2) (N := some 25) (v := ?_) (a' := ?_) #[T_,F_,T_,F_,F_,F_,F_,F_,F_,F_,F_,F_,F_,F_,F_,F_,F_,F_,F_,F_,F_,F_,F_,F_,F_,F_,F_,F_,F_,F_,F_,F_,F_,F_,F_,F_,F_,F_,F_,F_,F_,F_,F_,F_,F_] rfl rfl (take_ofW HT_.out HW_.out (by kernel_rfl)) (fun _ _ _ h => h) (Or.inl ⟨by rfl, ?_⟩) hHeld ?_ ?_
       rotate_left
       ·rintro w' ⟨s0, s1, s2, s3, s4, s5⟩
        go_simp
        with_reducible rfl
       rotate_left
       ·simp only [Act.put, List.setIfInBounds_toArray, List.set_cons_zero, List.set_cons_succ, i64_w, i32_w]
        rfl
       refine one_ (i := 1) (N := some 24) #[T_,T_,T_,F_,F_,F_,F_,F_,F_,F_,F_,F_,F_,F_,F_,F_,F_,F_,F_,F_,F_,F_,F_,F_,F_,F_,F_,F_,F_,F_,F_,F_,F_,F_,F_,F_,F_,F_,F_,F_,F_,F_,F_,F_,F_] rfl rfl (one_of HT_.out (by kernel_rfl)) (by decide) (fun K hK => ?_)
       refine goes_ Try.func11 (by kernel_rfl) rfl #[.agg #[.int .i64 a0_0, .int .i64 a0_1, .int .i64 a0_2, .int .i64 a0_3, .slice A0_4 l0_4.length c0_4, .int .u64 a0_5]] (by rfl) rfl rfl (by (try simp only [List.map_toArray, List.map_cons, List.map_nil]); first | done | rfl | (simp only [List.length_drop, List.length_take]; rfl)) ?_
       with_reducible refine (kind_May.calls k a0_0 a0_1 a0_2 a0_3 _ _ l0_4 a0_5 t241 _ ?side1 ?side2 A10.out).mono ?_
       (case side1 => repeat (first | exact (Kd.C_below HR0_4.out HB.out) | (with_reducible refine Kd.C_alloc ?_ _) | (with_reducible refine Kd.C_drewN ?_ _) | (with_reducible refine Kd.C_drew ?_)))
       (case side2 => exact HC0_4.out)
       rintro e w31 ⟨rfl, hb⟩
       refine ⟨_, rfl, ?_⟩
       have n0_ := Aside0.mk (blk_below (g := gb235) (o := .cells #[.int .i64 a0_0, .int .i64 a0_1, .int .i64 a0_2, .int .i64 a0_3, .slice A0_4 l0_4.length c0_4, .int .u64 a0_5] 27 (0, 0)) (by (with_reducible repeat (first | refine blk_drewN ?_ _ | refine blk_drew ?_ | refine blk_alloc ?_ _)); exact BK235.out) hb)
       have n1_ := Aside0.mk (below_step (B1_) hb)
       clear BK235
       clear HB
       have BK235 := n0_
       have HB := n1_
       clear n0_ n1_
       (try clear hb)
       (try clear hb2)
       (try clear hk)
       (try clear hi)
       refine hK.out _ _ ⟨(blk_cell BK235.out 0).trans rfl, (blk_cell BK235.out 1).trans rfl, (blk_cell BK235.out 2).trans rfl, (blk_cell BK235.out 3).trans rfl, (blk_cell BK235.out 4).trans rfl, (blk_cell BK235.out 5).trans rfl⟩ (fun hHeld => ?_)
       clear hK K
       refine norm_ (a' := ?_) ?_ ?_
       rotate_left
       ·show Act.put _ (some 24) _ = _
        simp only [Act.put, List.setIfInBounds_toArray, List.set_cons_zero, List.set_cons_succ, i64_w, i32_w]
        rfl
       refine one_ (i := 3) (N := some 26) #[T_,T_,T_,T_,F_,F_,F_,F_,F_,F_,F_,F_,F_,F_,F_,F_,F_,F_,F_,F_,F_,F_,F_,F_,F_,F_,F_,F_,F_,F_,F_,F_,F_,F_,F_,F_,F_,F_,F_,F_,F_,F_,F_,F_,F_] rfl rfl (one_of HT_.out (by kernel_rfl)) (by decide) (fun K hK => ?_)
       refine goes_ Try.func14 (by kernel_rfl) rfl #[.agg #[.int .i64 a0_0, .int .i64 a0_1, .int .i64 a0_2, .int .i64 a0_3, .slice A0_4 l0_4.length c0_4, .int .u64 a0_5]] (by rfl) rfl rfl (by (try simp only [List.map_toArray, List.map_cons, List.map_nil]); first | done | rfl | (simp only [List.length_drop, List.length_take]; rfl)) ?_
       with_reducible refine (lockstepref03_May.calls k a0_0 a0_1 a0_2 a0_3 _ _ l0_4 a0_5 t242 _ ?side1 ?side2 A11.out).mono ?_
       (case side1 => repeat (first | exact (Kd.C_below HR0_4.out HB.out) | (with_reducible refine Kd.C_alloc ?_ _) | (with_reducible refine Kd.C_drewN ?_ _) | (with_reducible refine Kd.C_drew ?_)))
       (case side2 => exact HC0_4.out)
       rintro e w32 ⟨rfl, hb⟩
       refine ⟨_, rfl, ?_⟩
       have n0_ := Aside0.mk (blk_below (g := gb235) (o := .cells #[.int .i64 a0_0, .int .i64 a0_1, .int .i64 a0_2, .int .i64 a0_3, .slice A0_4 l0_4.length c0_4, .int .u64 a0_5] 27 (0, 0)) (by (with_reducible repeat (first | refine blk_drewN ?_ _ | refine blk_drew ?_ | refine blk_alloc ?_ _)); exact BK235.out) hb)
       have n1_ := Aside0.mk (below_step (B1_) hb)
       clear BK235
       clear HB
       have BK235 := n0_
       have HB := n1_
       clear n0_ n1_
       (try clear hb)
       (try clear hb2)
       (try clear hk)
       (try clear hi)
       refine hK.out _ _ ⟨(blk_cell BK235.out 0).trans rfl, (blk_cell BK235.out 1).trans rfl, (blk_cell BK235.out 2).trans rfl, (blk_cell BK235.out 3).trans rfl, (blk_cell BK235.out 4).trans rfl, (blk_cell BK235.out 5).trans rfl⟩ (fun hHeld => ?_)
       clear hK K
       refine norm_ (a' := ?_) ?_ ?_
       rotate_left
       ·show Act.put _ (some 26) _ = _
        simp only [Act.put, List.setIfInBounds_toArray, List.set_cons_zero, List.set_cons_succ, i64_w, i32_w]
        rfl
       refine pure_ (i := 4) (N := some 27) (v := ?_) (a' := ?_) #[T_,T_,T_,T_,T_,F_,F_,F_,F_,F_,F_,F_,F_,F_,F_,F_,F_,F_,F_,F_,F_,F_,F_,F_,F_,F_,F_,F_,F_,F_,F_,F_,F_,F_,F_,F_,F_,F_,F_,F_,F_,F_,F_,F_,F_] rfl rfl (any_of HT_.out (by kernel_rfl)) (fun _ _ _ h => h) (Or.inl ⟨by rfl, ?_⟩) ?_ ?_
       rotate_left
       ·intro w'
        go_simp
        with_reducible rfl
       rotate_left
       ·simp only [Act.put, List.setIfInBounds_toArray, List.set_cons_zero, List.set_cons_succ, i64_w, i32_w]
        rfl
       refine pure_ (i := 5) (N := some 28) (v := ?_) (a' := ?_) #[T_,T_,T_,T_,T_,T_,F_,F_,F_,F_,F_,F_,F_,F_,F_,F_,F_,F_,F_,F_,F_,F_,F_,F_,F_,F_,F_,F_,F_,F_,F_,F_,F_,F_,F_,F_,F_,F_,F_,F_,F_,F_,F_,F_,F_] rfl rfl (any_of HT_.out (by kernel_rfl)) (fun _ _ _ h => h) (Or.inl ⟨by rfl, ?_⟩) ?_ ?_
       rotate_left
       ·intro w'
        go_simp
        with_reducible rfl
       rotate_left
       ·simp only [Act.put, List.setIfInBounds_toArray, List.set_cons_zero, List.set_cons_succ, i64_w, i32_w]
        rfl
       refine take_ (i := 6) (N := some 29) (v := ?_) (a' := ?_) #[T_,T_,T_,T_,T_,T_,T_,F_,F_,F_,F_,F_,F_,F_,F_,F_,F_,F_,F_,F_,F_,F_,F_,F_,F_,F_,F_,F_,F_,F_,F_,F_,F_,F_,F_,F_,F_,F_,F_,F_,F_,F_,F_,F_,F_] rfl rfl (take_ofW HT_.out HW_.out (by kernel_rfl)) (fun _ _ _ h => h) (Or.inl ⟨by rfl, ?_⟩) hHeld ?_ ?_
       rotate_left
       ·rintro w' ⟨s0, s1, s2, s3, s4, s5⟩
        go_simp
        with_reducible rfl
       rotate_left
       ·simp only [Act.put, List.setIfInBounds_toArray, List.set_cons_zero, List.set_cons_succ, i64_w, i32_w]
        rfl
       refine take_ (i := 8) (N := some 31) (v := ?_) (a' := ?_) #[T_,T_,T_,T_,T_,T_,T_,F_,T_,F_,F_,F_,F_,F_,F_,F_,F_,F_,F_,F_,F_,F_,F_,F_,F_,F_,F_,F_,F_,F_,F_,F_,F_,F_,F_,F_,F_,F_,F_,F_,F_,F_,F_,F_,F_] rfl rfl (take_ofW HT_.out HW_.out (by kernel_rfl)) (fun _ _ _ h => h) (Or.inl ⟨by rfl, ?_⟩) hHeld ?_ ?_
       rotate_left
       ·rintro w' ⟨s0, s1, s2, s3, s4, s5⟩
        go_simp
        with_reducible rfl
       rotate_left
       ·simp only [Act.put, List.setIfInBounds_toArray, List.set_cons_zero, List.set_cons_succ, i64_w, i32_w]
        rfl
       refine one_ (i := 7) (N := some 30) #[T_,T_,T_,T_,T_,T_,T_,T_,T_,F_,F_,F_,F_,F_,F_,F_,F_,F_,F_,F_,F_,F_,F_,F_,F_,F_,F_,F_,F_,F_,F_,F_,F_,F_,F_,F_,F_,F_,F_,F_,F_,F_,F_,F_,F_] rfl rfl (one_of HT_.out (by kernel_rfl)) (by decide) (fun K hK => ?_)
       refine goes_ Try.func16 (by kernel_rfl) rfl #[.agg #[.int .i64 a0_0, .int .i64 a0_1, .int .i64 a0_2, .int .i64 a0_3, .slice A0_4 l0_4.length c0_4, .int .u64 a0_5]] (by rfl) rfl rfl (by (try simp only [List.map_toArray, List.map_cons, List.map_nil]); first | done | rfl | (simp only [List.length_drop, List.length_take]; rfl)) ?_
       with_reducible refine (kind_Takes.calls k a0_0 a0_1 a0_2 a0_3 _ _ l0_4 a0_5 t243 _ ?side1 ?side2 A13.out).mono ?_
       (case side1 => repeat (first | exact (Kd.C_below HR0_4.out HB.out) | (with_reducible refine Kd.C_alloc ?_ _) | (with_reducible refine Kd.C_drewN ?_ _) | (with_reducible refine Kd.C_drew ?_)))
       (case side2 => exact HC0_4.out)
       rintro e w33 ⟨v244, rfl, ho0, hb⟩
       refine ⟨_, rfl, ?_⟩
       have n0_ := Aside0.mk (Kd.R_lower ho0 (below_size (B1_)))
       have n1_ := Aside0.mk (blk_below (g := gb235) (o := .cells #[.int .i64 a0_0, .int .i64 a0_1, .int .i64 a0_2, .int .i64 a0_3, .slice A0_4 l0_4.length c0_4, .int .u64 a0_5] 27 (0, 0)) (by (with_reducible repeat (first | refine blk_drewN ?_ _ | refine blk_drew ?_ | refine blk_alloc ?_ _)); exact BK235.out) hb)
       have n2_ := Aside0.mk (below_step (B1_) hb)
       clear BK235
       clear HB
       have HO245 := n0_
       have BK235 := n1_
       have HB := n2_
       clear n0_ n1_ n2_
       (try clear hb)
       (try clear hb2)
       (try clear hk)
       (try clear hi)
       (try clear ho0)
       refine hK.out _ _ ⟨(blk_cell BK235.out 0).trans rfl, (blk_cell BK235.out 1).trans rfl, (blk_cell BK235.out 2).trans rfl, (blk_cell BK235.out 3).trans rfl, (blk_cell BK235.out 4).trans rfl, (blk_cell BK235.out 5).trans rfl⟩ (fun hHeld => ?_)
       clear hK K
       refine norm_ (a' := ?_) ?_ ?_
       rotate_left
       ·show Act.put _ (some 30) _ = _
        simp only [Act.put, List.setIfInBounds_toArray, List.set_cons_zero, List.set_cons_succ, i64_w, i32_w]
        rfl
       refine one_ (i := 9) (N := some 32) #[T_,T_,T_,T_,T_,T_,T_,T_,T_,T_,F_,F_,F_,F_,F_,F_,F_,F_,F_,F_,F_,F_,F_,F_,F_,F_,F_,F_,F_,F_,F_,F_,F_,F_,F_,F_,F_,F_,F_,F_,F_,F_,F_,F_,F_] rfl rfl (one_of HT_.out (by kernel_rfl)) (by decide) (fun K hK => ?_)
       refine goes_ Try.func17 (by kernel_rfl) rfl #[.agg #[.int .i64 a0_0, .int .i64 a0_1, .int .i64 a0_2, .int .i64 a0_3, .slice A0_4 l0_4.length c0_4, .int .u64 a0_5]] (by rfl) rfl rfl (by (try simp only [List.map_toArray, List.map_cons, List.map_nil]); first | done | rfl | (simp only [List.length_drop, List.length_take]; rfl)) ?_
       with_reducible refine (lockstepref03_Takes.calls k a0_0 a0_1 a0_2 a0_3 _ _ l0_4 a0_5 t246 _ ?side1 ?side2 A14.out).mono ?_
       (case side1 => repeat (first | exact (Kd.C_below HR0_4.out HB.out) | (with_reducible refine Kd.C_alloc ?_ _) | (with_reducible refine Kd.C_drewN ?_ _) | (with_reducible refine Kd.C_drew ?_)))
       (case side2 => exact HC0_4.out)
       rintro e w34 ⟨v247, rfl, ho0, hb⟩
       refine ⟨_, rfl, ?_⟩
       have n0_ := Aside0.mk (Kd.R_elder' (by (with_reducible repeat (first | apply Kd.R_alloc | apply Kd.R_drewN | apply Kd.R_drew)); exact HO245.out) (Kd.R_base ho0) hb)
       have n1_ := Aside0.mk (Kd.R_lower (Kd.R_new' ho0 (Kd.R_lt (by (with_reducible repeat (first | apply Kd.R_alloc | apply Kd.R_drewN | apply Kd.R_drew)); exact HO245.out))) (below_size (B1_)))
       have n2_ := Aside0.mk (blk_below (g := gb235) (o := .cells #[.int .i64 a0_0, .int .i64 a0_1, .int .i64 a0_2, .int .i64 a0_3, .slice A0_4 l0_4.length c0_4, .int .u64 a0_5] 27 (0, 0)) (by (with_reducible repeat (first | refine blk_drewN ?_ _ | refine blk_drew ?_ | refine blk_alloc ?_ _)); exact BK235.out) hb)
       have n3_ := Aside0.mk (below_step (B1_) hb)
       clear HO245
       clear BK235
       clear HB
       have HO245 := n0_
       have HO248 := n1_
       have BK235 := n2_
       have HB := n3_
       clear n0_ n1_ n2_ n3_
       (try clear hb)
       (try clear hb2)
       (try clear hk)
       (try clear hi)
       (try clear ho0)
       obtain ⟨Ao35, co35, eo35⟩ := Kd.R_slice HO245.out
       (first | subst eo35 | (injection eo35 with f1_ f2_ f3_; have f4_ := f1_.symm; have f5_ := f3_.symm; clear f1_ f2_ f3_; subst f4_; subst f5_))
       obtain ⟨Ao36, co36, eo36⟩ := Kd.R_slice HO248.out
       (first | subst eo36 | (injection eo36 with f1_ f2_ f3_; have f4_ := f1_.symm; have f5_ := f3_.symm; clear f1_ f2_ f3_; subst f4_; subst f5_))
       refine hK.out _ _ ⟨(blk_cell BK235.out 0).trans rfl, (blk_cell BK235.out 1).trans rfl, (blk_cell BK235.out 2).trans rfl, (blk_cell BK235.out 3).trans rfl, (blk_cell BK235.out 4).trans rfl, (blk_cell BK235.out 5).trans rfl⟩ (fun hHeld => ?_)
       clear hK K
       refine norm_ (a' := ?_) ?_ ?_
       rotate_left
       ·show Act.put _ (some 32) _ = _
        simp only [Act.put, List.setIfInBounds_toArray, List.set_cons_zero, List.set_cons_succ, i64_w, i32_w]
        rfl
       refine one_ (i := 10) (N := some 33) #[T_,T_,T_,T_,T_,T_,T_,T_,T_,T_,T_,F_,F_,F_,F_,F_,F_,F_,F_,F_,F_,F_,F_,F_,F_,F_,F_,F_,F_,F_,F_,F_,F_,F_,F_,F_,F_,F_,F_,F_,F_,F_,F_,F_,F_] rfl rfl (one_of HT_.out (by kernel_rfl)) (by decide) (fun K hK => ?_)
       refine goes_ Try.func15 (by kernel_rfl) rfl #[.slice Ao35 t243.length co35, .slice Ao36 t246.length co36] (by rfl) rfl rfl (by (try simp only [List.map_toArray, List.map_cons, List.map_nil]); first | done | rfl | (simp only [List.length_drop, List.length_take]; rfl)) ?_
       with_reducible refine (locksteplaw03_shapes.calls k _ _ t243 _ _ t246 true _ ?side1 ?side2 ?side3 ?side4 A15.out).mono ?_
       (case side1 => repeat (first | exact (Kd.R_reads' HO245.out).2.2 | (with_reducible refine Kd.C_alloc ?_ _) | (with_reducible refine Kd.C_drewN ?_ _) | (with_reducible refine Kd.C_drew ?_)))
       (case side2 => exact (Kd.R_reads' HO245.out).2.1)
       (case side3 => repeat (first | exact (Kd.R_reads' HO248.out).2.2 | (with_reducible refine Kd.C_alloc ?_ _) | (with_reducible refine Kd.C_drewN ?_ _) | (with_reducible refine Kd.C_drew ?_)))
       (case side4 => exact (Kd.R_reads' HO248.out).2.1)
       rintro e w' ⟨rfl, ⟨nd, rfl⟩⟩
       refine ⟨_, rfl, ?_⟩
       refine hK.out _ _ ⟨(blk_cell BK235.out 0).trans rfl, (blk_cell BK235.out 1).trans rfl, (blk_cell BK235.out 2).trans rfl, (blk_cell BK235.out 3).trans rfl, (blk_cell BK235.out 4).trans rfl, (blk_cell BK235.out 5).trans rfl⟩ (fun hHeld => ?_)
       clear hK K
       refine norm_ (a' := ?_) ?_ ?_
       rotate_left
       ·show Act.put _ (some 33) _ = _
        simp only [Act.put, List.setIfInBounds_toArray, List.set_cons_zero, List.set_cons_succ, i64_w, i32_w]
        rfl
       refine pure_ (i := 11) (N := some 34) (v := ?_) (a' := ?_) #[T_,T_,T_,T_,T_,T_,T_,T_,T_,T_,T_,T_,F_,F_,F_,F_,F_,F_,F_,F_,F_,F_,F_,F_,F_,F_,F_,F_,F_,F_,F_,F_,F_,F_,F_,F_,F_,F_,F_,F_,F_,F_,F_,F_,F_] rfl rfl (any_of HT_.out (by kernel_rfl)) (fun _ _ _ h => h) (Or.inl ⟨by rfl, ?_⟩) ?_ ?_
       rotate_left
       ·intro w'
        go_simp
        with_reducible rfl
       rotate_left
       ·simp only [Act.put, List.setIfInBounds_toArray, List.set_cons_zero, List.set_cons_succ, i64_w, i32_w]
        rfl
       refine pure_ (i := 12) (N := some 35) (v := ?_) (a' := ?_) #[T_,T_,T_,T_,T_,T_,T_,T_,T_,T_,T_,T_,T_,F_,F_,F_,F_,F_,F_,F_,F_,F_,F_,F_,F_,F_,F_,F_,F_,F_,F_,F_,F_,F_,F_,F_,F_,F_,F_,F_,F_,F_,F_,F_,F_] rfl rfl (any_of HT_.out (by kernel_rfl)) (fun _ _ _ h => h) (Or.inl ⟨by rfl, ?_⟩) ?_ ?_
       rotate_left
       ·intro w'
        go_simp
        with_reducible rfl
       rotate_left
       ·simp only [Act.put, List.setIfInBounds_toArray, List.set_cons_zero, List.set_cons_succ, i64_w, i32_w]
        rfl
       refine pure_ (i := 13) (N := some 36) (v := ?_) (a' := ?_) #[T_,T_,T_,T_,T_,T_,T_,T_,T_,T_,T_,T_,T_,T_,F_,F_,F_,F_,F_,F_,F_,F_,F_,F_,F_,F_,F_,F_,F_,F_,F_,F_,F_,F_,F_,F_,F_,F_,F_,F_,F_,F_,F_,F_,F_] rfl rfl (any_of HT_.out (by kernel_rfl)) (fun _ _ _ h => h) (Or.inl ⟨by rfl, ?_⟩) ?_ ?_
       rotate_left
       ·intro w'
        go_simp
        with_reducible rfl
       rotate_left
       ·simp only [Act.put, List.setIfInBounds_toArray, List.set_cons_zero, List.set_cons_succ, i64_w, i32_w]
        rfl
       refine pure_ (i := 14) (N := some 37) (v := ?_) (a' := ?_) #[T_,T_,T_,T_,T_,T_,T_,T_,T_,T_,T_,T_,T_,T_,T_,F_,F_,F_,F_,F_,F_,F_,F_,F_,F_,F_,F_,F_,F_,F_,F_,F_,F_,F_,F_,F_,F_,F_,F_,F_,F_,F_,F_,F_,F_] rfl rfl (any_of HT_.out (by kernel_rfl)) (fun _ _ _ h => h) (Or.inl ⟨by rfl, ?_⟩) ?_ ?_
       rotate_left
       ·intro w'
        go_simp
        with_reducible rfl
       rotate_left
       ·simp only [Act.put, List.setIfInBounds_toArray, List.set_cons_zero, List.set_cons_succ, i64_w, i32_w]
        rfl
       refine pure_ (i := 15) (N := some 38) (v := ?_) (a' := ?_) #[T_,T_,T_,T_,T_,T_,T_,T_,T_,T_,T_,T_,T_,T_,T_,T_,F_,F_,F_,F_,F_,F_,F_,F_,F_,F_,F_,F_,F_,F_,F_,F_,F_,F_,F_,F_,F_,F_,F_,F_,F_,F_,F_,F_,F_] rfl rfl (any_of HT_.out (by kernel_rfl)) (fun _ _ _ h => h) (Or.inl ⟨by rfl, ?_⟩) ?_ ?_
       rotate_left
       ·intro w'
        go_simp
        with_reducible rfl
       rotate_left
       ·simp only [Act.put, List.setIfInBounds_toArray, List.set_cons_zero, List.set_cons_succ, i64_w, i32_w]
        rfl
       refine pure_ (i := 16) (N := some 39) (v := ?_) (a' := ?_) #[T_,T_,T_,T_,T_,T_,T_,T_,T_,T_,T_,T_,T_,T_,T_,T_,T_,F_,F_,F_,F_,F_,F_,F_,F_,F_,F_,F_,F_,F_,F_,F_,F_,F_,F_,F_,F_,F_,F_,F_,F_,F_,F_,F_,F_] rfl rfl (any_of HT_.out (by kernel_rfl)) (fun _ _ _ h => h) (Or.inl ⟨by rfl, ?_⟩) ?_ ?_
       rotate_left
       ·intro w'
        go_simp
        with_reducible rfl
       rotate_left
       ·simp only [Act.put, List.setIfInBounds_toArray, List.set_cons_zero, List.set_cons_succ, i64_w, i32_w]
        rfl
       refine pure_ (i := 17) (N := some 40) (v := ?_) (a' := ?_) #[T_,T_,T_,T_,T_,T_,T_,T_,T_,T_,T_,T_,T_,T_,T_,T_,T_,T_,F_,F_,F_,F_,F_,F_,F_,F_,F_,F_,F_,F_,F_,F_,F_,F_,F_,F_,F_,F_,F_,F_,F_,F_,F_,F_,F_] rfl rfl (any_of HT_.out (by kernel_rfl)) (fun _ _ _ h => h) (Or.inl ⟨by rfl, ?_⟩) ?_ ?_
       rotate_left
       ·intro w'
        go_simp
        with_reducible rfl
       rotate_left
       ·simp only [Act.put, List.setIfInBounds_toArray, List.set_cons_zero, List.set_cons_succ, i64_w, i32_w]
        rfl
       refine pure_ (i := 18) (N := some 41) (v := ?_) (a' := ?_) #[T_,T_,T_,T_,T_,T_,T_,T_,T_,T_,T_,T_,T_,T_,T_,T_,T_,T_,T_,F_,F_,F_,F_,F_,F_,F_,F_,F_,F_,F_,F_,F_,F_,F_,F_,F_,F_,F_,F_,F_,F_,F_,F_,F_,F_] rfl rfl (any_of HT_.out (by kernel_rfl)) (fun _ _ _ h => h) (Or.inl ⟨by rfl, ?_⟩) ?_ ?_
       rotate_left
       ·intro w'
        go_simp
        with_reducible rfl
       rotate_left
       ·simp only [Act.put, List.setIfInBounds_toArray, List.set_cons_zero, List.set_cons_succ, i64_w, i32_w]
        rfl
       refine pure_ (i := 19) (N := some 42) (v := ?_) (a' := ?_) #[T_,T_,T_,T_,T_,T_,T_,T_,T_,T_,T_,T_,T_,T_,T_,T_,T_,T_,T_,T_,F_,F_,F_,F_,F_,F_,F_,F_,F_,F_,F_,F_,F_,F_,F_,F_,F_,F_,F_,F_,F_,F_,F_,F_,F_] rfl rfl (any_of HT_.out (by kernel_rfl)) (fun _ _ _ h => h) (Or.inl ⟨by rfl, ?_⟩) ?_ ?_
       rotate_left
       ·intro w'
        go_simp
        with_reducible rfl
       rotate_left
       ·simp only [Act.put, List.setIfInBounds_toArray, List.set_cons_zero, List.set_cons_succ, i64_w, i32_w]
        rfl
       refine pure_ (i := 20) (N := some 43) (v := ?_) (a' := ?_) #[T_,T_,T_,T_,T_,T_,T_,T_,T_,T_,T_,T_,T_,T_,T_,T_,T_,T_,T_,T_,T_,F_,F_,F_,F_,F_,F_,F_,F_,F_,F_,F_,F_,F_,F_,F_,F_,F_,F_,F_,F_,F_,F_,F_,F_] rfl rfl (any_of HT_.out (by kernel_rfl)) (fun _ _ _ h => h) (Or.inl ⟨by rfl, ?_⟩) ?_ ?_
       rotate_left
       ·intro w'
        go_simp
        with_reducible rfl
       rotate_left
       ·simp only [Act.put, List.setIfInBounds_toArray, List.set_cons_zero, List.set_cons_succ, i64_w, i32_w]
        rfl
       refine pure_ (i := 21) (N := some 44) (v := ?_) (a' := ?_) #[T_,T_,T_,T_,T_,T_,T_,T_,T_,T_,T_,T_,T_,T_,T_,T_,T_,T_,T_,T_,T_,T_,F_,F_,F_,F_,F_,F_,F_,F_,F_,F_,F_,F_,F_,F_,F_,F_,F_,F_,F_,F_,F_,F_,F_] rfl rfl (any_of HT_.out (by kernel_rfl)) (fun _ _ _ h => h) (Or.inl ⟨by rfl, ?_⟩) ?_ ?_
       rotate_left
       ·intro w'
        go_simp
        with_reducible rfl
       rotate_left
       ·simp only [Act.put, List.setIfInBounds_toArray, List.set_cons_zero, List.set_cons_succ, i64_w, i32_w]
        rfl
       refine pure_ (i := 22) (N := some 45) (v := ?_) (a' := ?_) #[T_,T_,T_,T_,T_,T_,T_,T_,T_,T_,T_,T_,T_,T_,T_,T_,T_,T_,T_,T_,T_,T_,T_,F_,F_,F_,F_,F_,F_,F_,F_,F_,F_,F_,F_,F_,F_,F_,F_,F_,F_,F_,F_,F_,F_] rfl rfl (any_of HT_.out (by kernel_rfl)) (fun _ _ _ h => h) (Or.inl ⟨by rfl, ?_⟩) ?_ ?_
       rotate_left
       ·intro w'
        go_simp
        with_reducible rfl
       rotate_left
       ·simp only [Act.put, List.setIfInBounds_toArray, List.set_cons_zero, List.set_cons_succ, i64_w, i32_w]
        rfl
       refine pure_ (i := 23) (N := some 46) (v := ?_) (a' := ?_) #[T_,T_,T_,T_,T_,T_,T_,T_,T_,T_,T_,T_,T_,T_,T_,T_,T_,T_,T_,T_,T_,T_,T_,T_,F_,F_,F_,F_,F_,F_,F_,F_,F_,F_,F_,F_,F_,F_,F_,F_,F_,F_,F_,F_,F_] rfl rfl (any_of HT_.out (by kernel_rfl)) (fun _ _ _ h => h) (Or.inl ⟨by rfl, ?_⟩) ?_ ?_
       rotate_left
       ·intro w'
        go_simp
        with_reducible rfl
       rotate_left
       ·simp only [Act.put, List.setIfInBounds_toArray, List.set_cons_zero, List.set_cons_succ, i64_w, i32_w]
        rfl
       refine pure_ (i := 25) (N := some 48) (v := ?_) (a' := ?_) #[T_,T_,T_,T_,T_,T_,T_,T_,T_,T_,T_,T_,T_,T_,T_,T_,T_,T_,T_,T_,T_,T_,T_,T_,F_,T_,F_,F_,F_,F_,F_,F_,F_,F_,F_,F_,F_,F_,F_,F_,F_,F_,F_,F_,F_] rfl rfl (any_of HT_.out (by kernel_rfl)) (fun _ _ _ h => h) (Or.inl ⟨by rfl, ?_⟩) ?_ ?_
       rotate_left
       ·intro w'
        go_simp
        with_reducible rfl
       rotate_left
       ·simp only [Act.put, List.setIfInBounds_toArray, List.set_cons_zero, List.set_cons_succ, i64_w, i32_w]
        rfl
       refine pure_ (i := 28) (N := some 51) (v := ?_) (a' := ?_) #[T_,T_,T_,T_,T_,T_,T_,T_,T_,T_,T_,T_,T_,T_,T_,T_,T_,T_,T_,T_,T_,T_,T_,T_,F_,T_,F_,F_,T_,F_,F_,F_,F_,F_,F_,F_,F_,F_,F_,F_,F_,F_,F_,F_,F_] rfl rfl (any_of HT_.out (by kernel_rfl)) (fun _ _ _ h => h) (Or.inl ⟨by rfl, ?_⟩) ?_ ?_
       rotate_left
       ·intro w'
        go_simp
        with_reducible rfl
       rotate_left
       ·simp only [Act.put, List.setIfInBounds_toArray, List.set_cons_zero, List.set_cons_succ, i64_w, i32_w]
        rfl
       refine pure_ (i := 30) (N := some 53) (v := ?_) (a' := ?_) #[T_,T_,T_,T_,T_,T_,T_,T_,T_,T_,T_,T_,T_,T_,T_,T_,T_,T_,T_,T_,T_,T_,T_,T_,F_,T_,F_,F_,T_,F_,T_,F_,F_,F_,F_,F_,F_,F_,F_,F_,F_,F_,F_,F_,F_] rfl rfl (any_of HT_.out (by kernel_rfl)) (fun _ _ _ h => h) (Or.inl ⟨by rfl, ?_⟩) ?_ ?_
       rotate_left
       ·intro w'
        go_simp
        with_reducible rfl
       rotate_left
       ·simp only [Act.put, List.setIfInBounds_toArray, List.set_cons_zero, List.set_cons_succ, i64_w, i32_w]
        rfl
       refine take_ (i := 24) (N := some 47) (v := ?_) (a' := ?_) #[T_,T_,T_,T_,T_,T_,T_,T_,T_,T_,T_,T_,T_,T_,T_,T_,T_,T_,T_,T_,T_,T_,T_,T_,T_,T_,F_,F_,T_,F_,T_,F_,F_,F_,F_,F_,F_,F_,F_,F_,F_,F_,F_,F_,F_] rfl rfl (take_ofW HT_.out HW_.out (by kernel_rfl)) (fun _ _ _ h => h) (Or.inl ⟨by rfl, ?_⟩) hHeld ?_ ?_
       rotate_left
       ·rintro w' ⟨s0, s1, s2, s3, s4, s5⟩
        go_simp
        with_reducible rfl
       rotate_left
       ·simp only [Act.put, List.setIfInBounds_toArray, List.set_cons_zero, List.set_cons_succ, i64_w, i32_w]
        rfl
       refine take_ (i := 26) (N := some 49) (v := ?_) (a' := ?_) #[T_,T_,T_,T_,T_,T_,T_,T_,T_,T_,T_,T_,T_,T_,T_,T_,T_,T_,T_,T_,T_,T_,T_,T_,T_,T_,T_,F_,T_,F_,T_,F_,F_,F_,F_,F_,F_,F_,F_,F_,F_,F_,F_,F_,F_] rfl rfl (take_ofW HT_.out HW_.out (by kernel_rfl)) (fun _ _ _ h => h) (Or.inl ⟨by rfl, ?_⟩) hHeld ?_ ?_
       rotate_left
       ·rintro w' ⟨s0, s1, s2, s3, s4, s5⟩
        go_simp
        with_reducible rfl
       rotate_left
       ·simp only [Act.put, List.setIfInBounds_toArray, List.set_cons_zero, List.set_cons_succ, i64_w, i32_w]
        rfl
       refine take_ (i := 29) (N := some 52) (v := ?_) (a' := ?_) #[T_,T_,T_,T_,T_,T_,T_,T_,T_,T_,T_,T_,T_,T_,T_,T_,T_,T_,T_,T_,T_,T_,T_,T_,T_,T_,T_,F_,T_,T_,T_,F_,F_,F_,F_,F_,F_,F_,F_,F_,F_,F_,F_,F_,F_] rfl rfl (take_ofW HT_.out HW_.out (by kernel_rfl)) (fun _ _ _ h => h) (Or.inl ⟨by rfl, ?_⟩) hHeld ?_ ?_
       rotate_left
       ·rintro w' ⟨s0, s1, s2, s3, s4, s5⟩
        go_simp
        with_reducible rfl
       rotate_left
       ·simp only [Act.put, List.setIfInBounds_toArray, List.set_cons_zero, List.set_cons_succ, i64_w, i32_w]
        rfl
       refine take_ (i := 31) (N := some 54) (v := ?_) (a' := ?_) #[T_,T_,T_,T_,T_,T_,T_,T_,T_,T_,T_,T_,T_,T_,T_,T_,T_,T_,T_,T_,T_,T_,T_,T_,T_,T_,T_,F_,T_,T_,T_,T_,F_,F_,F_,F_,F_,F_,F_,F_,F_,F_,F_,F_,F_] rfl rfl (take_ofW HT_.out HW_.out (by kernel_rfl)) (fun _ _ _ h => h) (Or.inl ⟨by rfl, ?_⟩) hHeld ?_ ?_
       rotate_left
       ·rintro w' ⟨s0, s1, s2, s3, s4, s5⟩
        go_simp
        with_reducible rfl
       rotate_left
       ·simp only [Act.put, List.setIfInBounds_toArray, List.set_cons_zero, List.set_cons_succ, i64_w, i32_w]
        rfl
       refine one_ (i := 27) (N := some 50) #[T_,T_,T_,T_,T_,T_,T_,T_,T_,T_,T_,T_,T_,T_,T_,T_,T_,T_,T_,T_,T_,T_,T_,T_,T_,T_,T_,T_,T_,T_,T_,T_,F_,F_,F_,F_,F_,F_,F_,F_,F_,F_,F_,F_,F_] rfl rfl (one_of HT_.out (by kernel_rfl)) (by decide) (fun K hK => ?_)
       refine goes_ Try.func10 (by kernel_rfl) rfl #[.int .i64 a0_1, .int .i64 a0_2] (by rfl) rfl rfl (by (try simp only [List.map_toArray, List.map_cons, List.map_nil]); first | done | rfl | (simp only [List.length_drop, List.length_take]; rfl)) ?_
       with_reducible refine (kind_Shape.calls a0_1 a0_2 t250 _ A19.out).mono ?_
       rintro e w' ⟨rfl, ⟨nd, rfl⟩⟩
       refine ⟨_, rfl, ?_⟩
       refine hK.out _ _ ⟨(blk_cell BK235.out 0).trans rfl, (blk_cell BK235.out 1).trans rfl, (blk_cell BK235.out 2).trans rfl, (blk_cell BK235.out 3).trans rfl, (blk_cell BK235.out 4).trans rfl, (blk_cell BK235.out 5).trans rfl⟩ (fun hHeld => ?_)
       clear hK K
       refine norm_ (a' := ?_) ?_ ?_
       rotate_left
       ·show Act.put _ (some 50) _ = _
        simp only [Act.put, List.setIfInBounds_toArray, List.set_cons_zero, List.set_cons_succ, i64_w, i32_w]
        rfl
       refine one_ (i := 32) (N := some 55) #[T_,T_,T_,T_,T_,T_,T_,T_,T_,T_,T_,T_,T_,T_,T_,T_,T_,T_,T_,T_,T_,T_,T_,T_,T_,T_,T_,T_,T_,T_,T_,T_,T_,F_,F_,F_,F_,F_,F_,F_,F_,F_,F_,F_,F_] rfl rfl (one_of HT_.out (by kernel_rfl)) (by decide) (fun K hK => ?_)
       refine goes_ Try.func18 (by kernel_rfl) rfl #[.int .i64 a0_1, .int .i64 a0_2] (by rfl) rfl rfl (by (try simp only [List.map_toArray, List.map_cons, List.map_nil]); first | done | rfl | (simp only [List.length_drop, List.length_take]; rfl)) ?_
       with_reducible refine (lockstepref03_Shape.calls a0_1 a0_2 t251 _ A20.out).mono ?_
       rintro e w' ⟨rfl, ⟨nd, rfl⟩⟩
       refine ⟨_, rfl, ?_⟩
       refine hK.out _ _ ⟨(blk_cell BK235.out 0).trans rfl, (blk_cell BK235.out 1).trans rfl, (blk_cell BK235.out 2).trans rfl, (blk_cell BK235.out 3).trans rfl, (blk_cell BK235.out 4).trans rfl, (blk_cell BK235.out 5).trans rfl⟩ (fun hHeld => ?_)
       clear hK K
       refine norm_ (a' := ?_) ?_ ?_
       rotate_left
       ·show Act.put _ (some 55) _ = _
        simp only [Act.put, List.setIfInBounds_toArray, List.set_cons_zero, List.set_cons_succ, i64_w, i32_w]
        rfl
       refine pure_ (i := 33) (N := some 56) (v := ?_) (a' := ?_) #[T_,T_,T_,T_,T_,T_,T_,T_,T_,T_,T_,T_,T_,T_,T_,T_,T_,T_,T_,T_,T_,T_,T_,T_,T_,T_,T_,T_,T_,T_,T_,T_,T_,T_,F_,F_,F_,F_,F_,F_,F_,F_,F_,F_,F_] rfl rfl (any_of HT_.out (by kernel_rfl)) (fun _ _ _ h => h) (Or.inl ⟨by rfl, ?_⟩) ?_ ?_
       rotate_left
       ·intro w'
        go_simp
        with_reducible rfl
       rotate_left
       ·simp only [Act.put, List.setIfInBounds_toArray, List.set_cons_zero, List.set_cons_succ, i64_w, i32_w]
        rfl
       refine pure_ (i := 34) (N := some 57) (v := ?_) (a' := ?_) #[T_,T_,T_,T_,T_,T_,T_,T_,T_,T_,T_,T_,T_,T_,T_,T_,T_,T_,T_,T_,T_,T_,T_,T_,T_,T_,T_,T_,T_,T_,T_,T_,T_,T_,T_,F_,F_,F_,F_,F_,F_,F_,F_,F_,F_] rfl rfl (any_of HT_.out (by kernel_rfl)) (fun _ _ _ h => h) (Or.inl ⟨by rfl, ?_⟩) ?_ ?_
       rotate_left
       ·intro w'
        go_simp
        with_reducible rfl
       rotate_left
       ·simp only [Act.put, List.setIfInBounds_toArray, List.set_cons_zero, List.set_cons_succ, i64_w, i32_w]
        rfl
       refine pure_ (i := 35) (N := some 58) (v := ?_) (a' := ?_) #[T_,T_,T_,T_,T_,T_,T_,T_,T_,T_,T_,T_,T_,T_,T_,T_,T_,T_,T_,T_,T_,T_,T_,T_,T_,T_,T_,T_,T_,T_,T_,T_,T_,T_,T_,T_,F_,F_,F_,F_,F_,F_,F_,F_,F_] rfl rfl (any_of HT_.out (by kernel_rfl)) (fun _ _ _ h => h) (Or.inl ⟨by rfl, ?_⟩) ?_ ?_
       rotate_left
       ·intro w'
        go_simp
        with_reducible rfl
       rotate_left
       ·simp only [Act.put, List.setIfInBounds_toArray, List.set_cons_zero, List.set_cons_succ, i64_w, i32_w]
        rfl
       refine pure_ (i := 36) (N := some 59) (v := ?_) (a' := ?_) #[T_,T_,T_,T_,T_,T_,T_,T_,T_,T_,T_,T_,T_,T_,T_,T_,T_,T_,T_,T_,T_,T_,T_,T_,T_,T_,T_,T_,T_,T_,T_,T_,T_,T_,T_,T_,T_,F_,F_,F_,F_,F_,F_,F_,F_] rfl rfl (any_of HT_.out (by kernel_rfl)) (fun _ _ _ h => h) (Or.inl ⟨by rfl, ?_⟩) ?_ ?_
       rotate_left
       ·intro w'
        go_simp
        with_reducible rfl
       rotate_left
       ·simp only [Act.put, List.setIfInBounds_toArray, List.set_cons_zero, List.set_cons_succ, i64_w, i32_w]
        rfl
       refine pure_ (i := 39) (N := some 62) (v := ?_) (a' := ?_) #[T_,T_,T_,T_,T_,T_,T_,T_,T_,T_,T_,T_,T_,T_,T_,T_,T_,T_,T_,T_,T_,T_,T_,T_,T_,T_,T_,T_,T_,T_,T_,T_,T_,T_,T_,T_,T_,F_,F_,T_,F_,F_,F_,F_,F_] rfl rfl (any_of HT_.out (by kernel_rfl)) (fun _ _ _ h => h) (Or.inl ⟨by rfl, ?_⟩) ?_ ?_
       rotate_left
       ·intro w'
        go_simp
        with_reducible rfl
       rotate_left
       ·simp only [Act.put, List.setIfInBounds_toArray, List.set_cons_zero, List.set_cons_succ, i64_w, i32_w]
        rfl
       refine take_ (i := 37) (N := some 60) (v := ?_) (a' := ?_) #[T_,T_,T_,T_,T_,T_,T_,T_,T_,T_,T_,T_,T_,T_,T_,T_,T_,T_,T_,T_,T_,T_,T_,T_,T_,T_,T_,T_,T_,T_,T_,T_,T_,T_,T_,T_,T_,T_,F_,T_,F_,F_,F_,F_,F_] rfl rfl (take_ofW HT_.out HW_.out (by kernel_rfl)) (fun _ _ _ h => h) (Or.inl ⟨by rfl, ?_⟩) hHeld ?_ ?_
       rotate_left
       ·rintro w' ⟨s0, s1, s2, s3, s4, s5⟩
        go_simp
        with_reducible rfl
       rotate_left
       ·simp only [Act.put, List.setIfInBounds_toArray, List.set_cons_zero, List.set_cons_succ, i64_w, i32_w]
        rfl
       refine take_ (i := 40) (N := some 63) (v := ?_) (a' := ?_) #[T_,T_,T_,T_,T_,T_,T_,T_,T_,T_,T_,T_,T_,T_,T_,T_,T_,T_,T_,T_,T_,T_,T_,T_,T_,T_,T_,T_,T_,T_,T_,T_,T_,T_,T_,T_,T_,T_,F_,T_,T_,F_,F_,F_,F_] rfl rfl (take_ofW HT_.out HW_.out (by kernel_rfl)) (fun _ _ _ h => h) (Or.inl ⟨by rfl, ?_⟩) hHeld ?_ ?_
       rotate_left
       ·rintro w' ⟨s0, s1, s2, s3, s4, s5⟩
        go_simp
        with_reducible rfl
       rotate_left
       ·simp only [Act.put, List.setIfInBounds_toArray, List.set_cons_zero, List.set_cons_succ, i64_w, i32_w]
        rfl
       refine one_ (i := 38) (N := some 61) #[T_,T_,T_,T_,T_,T_,T_,T_,T_,T_,T_,T_,T_,T_,T_,T_,T_,T_,T_,T_,T_,T_,T_,T_,T_,T_,T_,T_,T_,T_,T_,T_,T_,T_,T_,T_,T_,T_,T_,T_,T_,F_,F_,F_,F_] rfl rfl (one_of HT_.out (by kernel_rfl)) (by decide) (fun K hK => ?_)
       refine goes_ Try.func19 (by kernel_rfl) rfl #[.int .i64 a0_0] (by rfl) rfl rfl (by (try simp only [List.map_toArray, List.map_cons, List.map_nil]); first | done | rfl | (simp only [List.length_drop, List.length_take]; rfl)) ?_
       with_reducible refine (kind_Pure.calls a0_0 t252 _ A22.out).mono ?_
       rintro e w' ⟨rfl, ⟨nd, rfl⟩⟩
       refine ⟨_, rfl, ?_⟩
       refine hK.out _ _ ⟨(blk_cell BK235.out 0).trans rfl, (blk_cell BK235.out 1).trans rfl, (blk_cell BK235.out 2).trans rfl, (blk_cell BK235.out 3).trans rfl, (blk_cell BK235.out 4).trans rfl, (blk_cell BK235.out 5).trans rfl⟩ (fun hHeld => ?_)
       clear hK K
       refine norm_ (a' := ?_) ?_ ?_
       rotate_left
       ·show Act.put _ (some 61) _ = _
        simp only [Act.put, List.setIfInBounds_toArray, List.set_cons_zero, List.set_cons_succ, i64_w, i32_w]
        rfl
       refine one_ (i := 41) (N := some 64) #[T_,T_,T_,T_,T_,T_,T_,T_,T_,T_,T_,T_,T_,T_,T_,T_,T_,T_,T_,T_,T_,T_,T_,T_,T_,T_,T_,T_,T_,T_,T_,T_,T_,T_,T_,T_,T_,T_,T_,T_,T_,T_,F_,F_,F_] rfl rfl (one_of HT_.out (by kernel_rfl)) (by decide) (fun K hK => ?_)
       refine goes_ Try.func20 (by kernel_rfl) rfl #[.int .i64 a0_0] (by rfl) rfl rfl (by (try simp only [List.map_toArray, List.map_cons, List.map_nil]); first | done | rfl | (simp only [List.length_drop, List.length_take]; rfl)) ?_
       with_reducible refine (lockstepref03_Pure.calls a0_0 t253 _ A23.out).mono ?_
       rintro e w' ⟨rfl, ⟨nd, rfl⟩⟩
       refine ⟨_, rfl, ?_⟩
       refine hK.out _ _ ⟨(blk_cell BK235.out 0).trans rfl, (blk_cell BK235.out 1).trans rfl, (blk_cell BK235.out 2).trans rfl, (blk_cell BK235.out 3).trans rfl, (blk_cell BK235.out 4).trans rfl, (blk_cell BK235.out 5).trans rfl⟩ (fun hHeld => ?_)
       clear hK K
       refine norm_ (a' := ?_) ?_ ?_
       rotate_left
       ·show Act.put _ (some 64) _ = _
        simp only [Act.put, List.setIfInBounds_toArray, List.set_cons_zero, List.set_cons_succ, i64_w, i32_w]
        rfl
       refine pure_ (i := 42) (N := some 65) (v := ?_) (a' := ?_) #[T_,T_,T_,T_,T_,T_,T_,T_,T_,T_,T_,T_,T_,T_,T_,T_,T_,T_,T_,T_,T_,T_,T_,T_,T_,T_,T_,T_,T_,T_,T_,T_,T_,T_,T_,T_,T_,T_,T_,T_,T_,T_,T_,F_,F_] rfl rfl (any_of HT_.out (by kernel_rfl)) (fun _ _ _ h => h) (Or.inl ⟨by rfl, ?_⟩) ?_ ?_
       rotate_left
       ·intro w'
        go_simp
        with_reducible rfl
       rotate_left
       ·simp only [Act.put, List.setIfInBounds_toArray, List.set_cons_zero, List.set_cons_succ, i64_w, i32_w]
        rfl
       refine pure_ (i := 43) (N := some 66) (v := ?_) (a' := ?_) #[T_,T_,T_,T_,T_,T_,T_,T_,T_,T_,T_,T_,T_,T_,T_,T_,T_,T_,T_,T_,T_,T_,T_,T_,T_,T_,T_,T_,T_,T_,T_,T_,T_,T_,T_,T_,T_,T_,T_,T_,T_,T_,T_,T_,F_] rfl rfl (any_of HT_.out (by kernel_rfl)) (fun _ _ _ h => h) (Or.inl ⟨by rfl, ?_⟩) ?_ ?_
       rotate_left
       ·intro w'
        go_simp
        with_reducible rfl
       rotate_left
       ·simp only [Act.put, List.setIfInBounds_toArray, List.set_cons_zero, List.set_cons_succ, i64_w, i32_w]
        rfl
       refine pure_ (i := 44) (N := some 2) (v := ?_) (a' := ?_) #[T_,T_,T_,T_,T_,T_,T_,T_,T_,T_,T_,T_,T_,T_,T_,T_,T_,T_,T_,T_,T_,T_,T_,T_,T_,T_,T_,T_,T_,T_,T_,T_,T_,T_,T_,T_,T_,T_,T_,T_,T_,T_,T_,T_,T_] rfl rfl (any_of HT_.out (by kernel_rfl)) (fun _ _ _ h => h) (Or.inl ⟨by rfl, ?_⟩) ?_ ?_
       rotate_left
       ·intro w'
        go_simp
        with_reducible rfl
       rotate_left
       ·simp only [Act.put, List.setIfInBounds_toArray, List.set_cons_zero, List.set_cons_succ, i64_w, i32_w]
        rfl
       refine done_ (done_of HT_.out (by kernel_rfl)) ?_
       try go_wp2
       go_ret
       exact ⟨by first | rfl | exact congrArg (fun b => Ending.returned (Value.bool b)) HR_.out | (simp [errW_none, errW_some] <;> rfl) | (simp [*, errW_none, errW_some] <;> rfl), B1_⟩
      rw [if_neg c21] at H
      have c21b0 : (t250 == t251) = false := by simpa using c21
      (try (have c21b1 : decide (t250 = t251) = false := by simpa using c21))
      (try (have c21b2 : (t250 == t251) = false := by simpa using c21))
      (try (have c21b3 : ¬ (t250 = t251) := by simpa using c21))
      clear c21
      exact absurd H (by simp)
     rw [if_neg c18] at H
     have c18b0 : (t238 == t240) = false := beq_eq_false_iff_ne.mpr c18
     have c18b1 : (t238 != t240) = true := bne_iff_ne.mpr c18
     exact absurd H (by simp)
    rw [if_neg c17] at H
    have c17b0 : (t237 == t239) = false := beq_eq_false_iff_ne.mpr c17
    have c17b1 : (t237 != t239) = true := bne_iff_ne.mpr c17
    exact absurd H (by simp)
   replace c16 := Bool.eq_false_iff.mpr c16
   subst c16
   have H1 : (some false) = some true := by rw [if_neg (show ¬ (false = true) by decide)] at H; exact H
   clear H
   have H := H1
   clear H1
   exact absurd H (by simp)
  rw [if_neg c12] at H
  have c12b0 : (t241 == t242) = false := by simpa using c12
  (try (have c12b1 : decide (t241 = t242) = false := by simpa using c12))
  (try (have c12b2 : (t241 == t242) = false := by simpa using c12))
  (try (have c12b3 : ¬ (t241 = t242) := by simpa using c12))
  clear c12
  exact absurd H (by simp)
 replace c3 := Bool.eq_false_iff.mpr c3
 subst c3
 have H1 : (some false) = some true := by rw [if_neg (show ¬ (false = true) by decide)] at H; exact H
 clear H
 have H := H1
 clear H1
 exact absurd H (by simp)

/-- THE ONE PURE STATEMENT of locksteplaw03_KindLooks: yours. -/
def locksteplaw03_KindLooks.Pure : Prop := ∀ (a0_0 : Int) (a0_1 : Int) (a0_2 : Int) (a0_3 : Int) (l0_4 : List Int) (a0_5 : Int), (Lit.int .i64 a0_0).wf = true → (Lit.int .i64 a0_1).wf = true → (Lit.int .i64 a0_2).wf = true → (Lit.int .i64 a0_3).wf = true → (Lit.int .u64 a0_5).wf = true → l0_4.length ≤ maxLen → (∀ x ∈ l0_4, (Lit.int .i64 x).wf = true) → ∃ k, locksteplaw03_KindLooks.f k a0_0 a0_1 a0_2 a0_3 l0_4 a0_5 = some true
theorem locksteplaw03_KindLooks.walk (P : locksteplaw03_KindLooks.Pure) (a0_0 a0_1 a0_2 a0_3 : Int) (A0_4 : Option Addr) (c0_4 : Nat) (l0_4 : List Int) (a0_5 : Int) (w : World) (w0_0 : (Lit.int .i64 a0_0).wf = true) (w0_1 : (Lit.int .i64 a0_1).wf = true) (w0_2 : (Lit.int .i64 a0_2).wf = true) (w0_3 : (Lit.int .i64 a0_3).wf = true) (w0_5 : (Lit.int .u64 a0_5).wf = true) (w0_4 : Kd.C (Kd.int .i64) w A0_4 l0_4.length l0_4) (y0_4 : l0_4.length ≤ c0_4) (m0_4 : l0_4.length ≤ maxLen) (n0_4 : ∀ x ∈ l0_4, (Lit.int .i64 x).wf = true) :
 Calls Try.prog 5 #[.agg #[.int .i64 a0_0, .int .i64 a0_1, .int .i64 a0_2, .int .i64 a0_3, .slice A0_4 l0_4.length c0_4, .int .u64 a0_5]] w fun e w' => e = .returned (.bool true) ∧ Below w.heap.size w w' := by
 obtain ⟨k, h⟩ := P a0_0 a0_1 a0_2 a0_3 l0_4 a0_5 w0_0 w0_1 w0_2 w0_3 w0_5 m0_4 n0_4
 refine (locksteplaw03_KindLooks.calls k a0_0 a0_1 a0_2 a0_3 A0_4 c0_4 l0_4 a0_5 w w0_4 y0_4 h).mono ?_
 rintro e w' ⟨rfl, hd⟩
 exact ⟨rfl, hd⟩

end Go.Proofs.Ytblhphjdjpodcaa.Q
namespace Go.Proofs.Ytblhphjdjpodcaa.KP
open Go.RowKit Go.Proofs.Ytblhphjdjpodcaa.Q Go.Proofs.YtblhphjdjpodcaaW.PrintWords
set_option linter.unusedSimpArgs false
set_option linter.unusedVariables false

/-- With enough rounds the answer is v. -/
def Ev {α : Type} (f : Nat → Option α) (v : α) : Prop := ∃ K, ∀ k, K ≤ k → f k = some v
theorem Ev.succ {α : Type} {f : Nat → Option α} {v : α} (h : Ev (fun k => f (k + 1)) v) : Ev f v := by
  obtain ⟨K, h⟩ := h
  refine ⟨K + 1, fun k hk => ?_⟩
  obtain ⟨m, rfl⟩ : ∃ m, k = m + 1 := ⟨k - 1, by omega⟩
  exact h m (by omega)
theorem Ev.bind {α β : Type} {g : Nat → Option α} {h : Nat → α → Option β} {a : α} {r : β} (h1 : Ev g a) (h2 : Ev (fun k => h k a) r) : Ev (fun k => (g k).bind (fun t => h k t)) r := by
  obtain ⟨K1, h1⟩ := h1
  obtain ⟨K2, h2⟩ := h2
  refine ⟨K1 + K2, fun k hk => ?_⟩
  simp only [h1 k (by omega), Option.bind_some]
  exact h2 k (by omega)
theorem Ev.pure {α : Type} {v : α} : Ev (fun _ => some v) v := ⟨0, fun _ _ => rfl⟩
theorem Ev.ifp {α : Type} {c : Prop} [Decidable c] {a b : Nat → Option α} {v : α} (h : c) (H : Ev a v) : Ev (fun k => if c then a k else b k) v := by
  simp only [if_pos h]; exact H
theorem Ev.ifn {α : Type} {c : Prop} [Decidable c] {a b : Nat → Option α} {v : α} (h : ¬ c) (H : Ev b v) : Ev (fun k => if c then a k else b k) v := by
  simp only [if_neg h]; exact H
theorem Ev.at {α : Type} {f : Nat → Option α} {v : α} (h : Ev f v) : ∃ k, f k = some v := by
  obtain ⟨K, h⟩ := h; exact ⟨K, h K (Nat.le_refl _)⟩
theorem Ev.of_eq {α : Type} {f : Nat → Option α} {v w : α} (h : Ev f v) (e : v = w) : Ev f w := e ▸ h
theorem Ev.of_at {α : Type} {f : Nat → Option α} {v : α} (m : ∀ k, LeO (f k) (f (k + 1))) {K : Nat} (h : f K = some v) : Ev f v := by
  refine ⟨K, fun k hk => ?_⟩
  obtain ⟨d, rfl⟩ : ∃ d, k = K + d := ⟨k - K, by omega⟩
  clear hk
  induction d with
  | zero => exact h
  | succ d ih => exact m _ _ ih

theorem wrap_nat {i : Nat} (h : i < 9223372036854775807) : wrap64 ((i : Int) + 1) = ((i + 1 : Nat) : Int) := by unfold wrap64; omega
theorem wrap_id {x : Int} (h : -9223372036854775808 ≤ x) (h' : x ≤ 9223372036854775807) : wrap64 x = x := by unfold wrap64; omega


/-! #### shapes -/
def wm (b : Int) : Bool := b == 1 || b == 8 || b == 16 || b == 32 || b == 64
theorem wm_ok (b : Int) : word_May.f b = some (wm b) := by
  unfold word_May.f wm
  by_cases h1 : b = 1
  · simp [h1]
  by_cases h2 : b = 8
  · simp [h2]
  by_cases h3 : b = 16
  · simp [h3]
  by_cases h4 : b = 32
  · simp [h4]
  by_cases h5 : b = 64
  · simp [h5]
  simp [h1, h2, h3, h4, h5]
theorem wm_cases {b : Int} (h : wm b = true) : b = 1 ∨ b = 8 ∨ b = 16 ∨ b = 32 ∨ b = 64 := by
  simpa [wm, or_assoc] using h
def shp (b n : Int) : Bool := wm b && (n == 1 || ((n == 2 || n == 4 || n == 8 || n == 16) && decide (8 ≤ b) && decide (b * n ≤ 128)))
theorem shape_ok (b n : Int) : kind_Shape.f b n = some (shp b n) := by
  unfold kind_Shape.f shp
  rw [wm_ok, Option.bind_some]
  cases hb : wm b with
  | false => simp
  | true =>
    simp only [if_true, Bool.true_and]
    have hw : ∀ m : Int, 0 ≤ m → m ≤ 16 → wrap64 (b * m) = b * m := fun m h0 h1 => by
      rcases wm_cases hb with h | h | h | h | h <;> subst h <;> exact wrap_id (by omega) (by omega)
    by_cases h1 : n = 1
    · simp [h1]
    by_cases h2 : n = 2
    · subst h2; rw [hw 2 (by omega) (by omega)]; by_cases h8 : b ≥ 8 <;> simp [h8]
    by_cases h3 : n = 4
    · subst h3; rw [hw 4 (by omega) (by omega)]; by_cases h8 : b ≥ 8 <;> simp [h8]
    by_cases h4 : n = 8
    · subst h4; rw [hw 8 (by omega) (by omega)]; by_cases h8 : b ≥ 8 <;> simp [h8]
    by_cases h5 : n = 16
    · subst h5; rw [hw 16 (by omega) (by omega)]; by_cases h8 : b ≥ 8 <;> simp [h8]
    simp [h1, h2, h3, h4, h5]
theorem shp_cases {b n : Int} (h : shp b n = true) : (b = 1 ∨ b = 8 ∨ b = 16 ∨ b = 32 ∨ b = 64) ∧ (n = 1 ∨ ((n = 2 ∨ n = 4 ∨ n = 8 ∨ n = 16) ∧ 8 ≤ b ∧ b * n ≤ 128)) := by
  unfold shp at h
  rw [Bool.and_eq_true] at h
  refine ⟨wm_cases h.1, ?_⟩
  have h2 := h.2
  simp [or_assoc, and_assoc] at h2
  exact h2

/-! #### takes -/
def cutv (a b : Int) : Int := shr .u64 (shl .u64 a (wrap64 (64 - b))) (wrap64 (64 - b))
theorem cut_ok {b : Int} (a : Int) (h : wm b = true) : word_Cut.f a b = some (cutv a b) := by
  unfold word_Cut.f cutv
  rw [wm_ok, h, Option.bind_some, if_pos rfl, if_pos]
  rcases wm_cases h with h | h | h | h | h <;> subst h <;> decide +kernel
def tk (c b n i : Int) : List S37 × Bool :=
  if c = 0 then ([], cutv i b == i)
  else if c = 1 ∨ c = 2 ∨ c = 3 ∨ c = 5 ∨ c = 6 ∨ c = 7 ∨ c = 8 ∨ c = 9 then ([⟨b, n⟩, ⟨b, n⟩], i == 0)
  else if c = 4 ∨ c = 10 ∨ c = 11 ∨ c = 12 then ([⟨b, n⟩, ⟨b, n⟩], i == 0 && n == 1)
  else if c = 13 then ([⟨1, 1⟩, ⟨b, n⟩, ⟨b, n⟩], i == 0)
  else if c = 14 then ([⟨wrap64 (mn i 128), 1⟩], n == 1 && (decide (i < IntKind.u64.wrap b) && wm (wrap64 i)))
  else if c = 15 then ([⟨wrap64 (mn i 128), 1⟩], n == 1 && (decide (i > IntKind.u64.wrap b) && (decide (i ≤ 64) && wm (wrap64 i))))
  else if c = 16 then ([⟨64, 1⟩], i == 0 && decide (b ≥ 8))
  else if c = 17 then ([⟨64, 1⟩, ⟨b, n⟩], i == 0 && decide (b ≥ 8))
  else if c = 18 ∨ c = 19 then ([⟨1, 1⟩, ⟨64, 1⟩, ⟨b, n⟩], i == 0 && (n == 1 && decide (b ≥ 8)))
  else if c = 20 then ([⟨1, 1⟩, ⟨b, n⟩, ⟨b, n⟩, ⟨b, n⟩], i == 0 && n == 1)
  else if c = 21 then (List.replicate n.toNat ⟨b, 1⟩, i == 0 && !(n == 1))
  else if c = 22 then ([⟨b, n⟩], !(n == 1) && decide (i < IntKind.u64.wrap n))
  else ([], false)
theorem takes_ok {b n : Int} (c d i : Int) (l : List Int) (h : shp b n = true) : kind_takes.f c b n d l i = some (tk c b n i) := by
  have hb : wm b = true := by unfold shp at h; rw [Bool.and_eq_true] at h; exact h.1
  have hn := (shp_cases h).2
  unfold kind_takes.f tk
  by_cases h0 : c = 0
  · simp only [if_pos h0, cut_ok i hb, Option.bind_some]
  simp only [if_neg h0]
  by_cases h1 : c = 1 ∨ c = 2 ∨ c = 3 ∨ c = 5 ∨ c = 6 ∨ c = 7 ∨ c = 8 ∨ c = 9
  · simp only [if_pos h1]
  simp only [if_neg h1]
  by_cases h2 : c = 4 ∨ c = 10 ∨ c = 11 ∨ c = 12
  · simp only [if_pos h2]
  simp only [if_neg h2]
  by_cases h3 : c = 13
  · simp only [if_pos h3]
  simp only [if_neg h3]
  by_cases h4 : c = 14
  · simp only [if_pos h4, wm_ok, Option.bind_some]
    by_cases hx : n = 1 ∧ i < IntKind.u64.wrap b
    · rw [if_pos hx]; simp [hx.1, hx.2]
    · rw [if_neg hx]
      by_cases hy : n = 1
      · have : ¬ i < IntKind.u64.wrap b := fun e => hx ⟨hy, e⟩
        simp [this]
      · simp [hy]
  simp only [if_neg h4]
  by_cases h5 : c = 15
  · simp only [if_pos h5, wm_ok, Option.bind_some]
    by_cases hx : n = 1 ∧ i > IntKind.u64.wrap b ∧ i ≤ 64
    · rw [if_pos hx]; simp [hx.1, hx.2.2, show IntKind.u64.wrap b < i from hx.2.1]
    · rw [if_neg hx]
      by_cases hy : n = 1
      · by_cases hz : i > IntKind.u64.wrap b
        · have : ¬ i ≤ 64 := fun e => hx ⟨hy, hz, e⟩
          simp [this]
        · have : ¬ IntKind.u64.wrap b < i := hz
          simp [this]
      · simp [hy]
  simp only [if_neg h5]
  by_cases h6 : c = 16
  · simp only [if_pos h6]
  simp only [if_neg h6]
  by_cases h7 : c = 17
  · simp only [if_pos h7]
  simp only [if_neg h7]
  by_cases h8 : c = 18 ∨ c = 19
  · simp only [if_pos h8]
  simp only [if_neg h8]
  by_cases h9 : c = 20
  · simp only [if_pos h9]
  simp only [if_neg h9]
  by_cases h10 : c = 21
  · simp only [if_pos h10]
    unfold slices_Repeat_2_int_2_int.f
    rw [if_pos ⟨rfl, by omega, by omega⟩, Option.bind_some]; rfl
  simp only [if_neg h10]
  by_cases h11 : c = 22
  · simp only [if_pos h11]
  simp only [if_neg h11]

/-! #### May -/
def val (v : Int) : Bool := decide (1 ≤ v ∧ v ≤ 1023)
theorem value_ok (v : Int) : kind_value.f v = some (val v) := by
  unfold kind_value.f val
  by_cases h : v ≥ 1
  · rw [if_pos h]; simp [show 1 ≤ v from h]
  · rw [if_neg h]; simp; omega
theorem may1_ok (v : Int) : kind_May_1.f v = some (!val v) := by unfold kind_May_1.f; rw [value_ok, Option.bind_some]
theorem index_l0 (d : Nat) : ∀ (i : Nat) (l : List Int), l.length ≤ maxLen → i ≤ l.length → l.length - i = d →
    ∃ v : Int, Ev (fun k => slices_IndexFunc_int_int_kind_May_1.l0 k l (l.length : Int) (i : Int)) v ∧ decide (v ≥ 0) = (l.drop i).any (fun v => !val v) := by
  have hml : maxLen ≤ 9223372036854775807 := by decide
  induction d with
  | zero =>
    intro i l hb hi hd
    refine ⟨-1, ?_, ?_⟩
    · refine Ev.succ ?_; simp only [slices_IndexFunc_int_int_kind_May_1.l0]
      exact Ev.ifn (by omega) Ev.pure
    · rw [List.drop_eq_nil_of_le (by omega)]; rfl
  | succ d ih =>
    intro i l hb hi hd
    have hi' : i < l.length := by omega
    have hdr : l.drop i = l.getD i 0 :: l.drop (i + 1) := by rw [List.drop_eq_getElem_cons hi', List.getD_eq_getElem?_getD, List.getElem?_eq_getElem hi']; rfl
    have hrd : rd l (i : Int) = l.getD i 0 := by simp only [rd, Int.toNat_natCast]
    cases hv : val (l.getD i 0) with
    | true =>
      obtain ⟨v, h1, h2⟩ := ih (i + 1) l hb (by omega) (by omega)
      refine ⟨v, ?_, ?_⟩
      · refine Ev.succ ?_; simp only [slices_IndexFunc_int_int_kind_May_1.l0]
        refine Ev.ifp (by omega) (Ev.ifp (by omega) (Ev.ifp (by omega) ?_))
        simp only [hrd, may1_ok, hv, wrap_nat (show i < 9223372036854775807 by omega), Option.bind_some, Bool.not_true, Bool.false_eq_true, if_false]
        exact h1
      · rw [hdr, List.any_cons, hv, h2]; rfl
    | false =>
      refine ⟨(i : Int), ?_, ?_⟩
      · refine Ev.succ ?_; simp only [slices_IndexFunc_int_int_kind_May_1.l0]
        refine Ev.ifp (by omega) (Ev.ifp (by omega) (Ev.ifp (by omega) ?_))
        simp only [hrd, may1_ok, hv, Option.bind_some, Bool.not_false, if_true]
        exact Ev.pure
      · rw [hdr, List.any_cons, hv]; simp
theorem contains_ok (l : List Int) (hb : l.length ≤ maxLen) : Ev (fun k => slices_ContainsFunc_int_int_kind_May_1.f k l) (l.any fun v => !val v) := by
  obtain ⟨v, h1, h2⟩ := index_l0 l.length 0 l hb (by omega) (by omega)
  unfold slices_ContainsFunc_int_int_kind_May_1.f slices_IndexFunc_int_int_kind_May_1.f
  refine Ev.bind h1 ?_
  rw [h2]; exact Ev.pure
def sto (c : Int) : Bool := c == 17 || c == 19
theorem stores_ok (c : Int) : kind_stores.f c = some (sto c) := by
  unfold kind_stores.f sto
  by_cases h : c = 17
  · simp [h]
  · rw [if_neg h]; simp [h]
def mayv (c b n d : Int) (l : List Int) (i : Int) : Bool :=
  shp b n && ((tk c b n i).2 && ((if sto c then d == 0 else val d) && (decide (((tk c b n i).1.length : Int) = (l.length : Int)) && !(l.any fun v => !val v))))
theorem may_ok (c b n d : Int) (l : List Int) (i : Int) (hb : l.length ≤ maxLen) : Ev (fun k => kind_May.f k c b n d l i) (mayv c b n d l i) := by
  unfold kind_May.f mayv
  simp only [shape_ok, Option.bind_some]
  cases hs : shp b n with
  | false => exact Ev.pure
  | true =>
    simp only [if_true, Bool.true_and]
    simp only [takes_ok c d i l hs, value_ok, stores_ok, Option.bind_some]
    generalize tk c b n i = q
    obtain ⟨L, o⟩ := q
    have hc := contains_ok l hb
    cases hst : sto c with
    | true =>
      simp only [if_true]
      cases o with
      | false => exact Ev.pure
      | true =>
        simp only [if_true, Bool.true_and]
        by_cases hd : d = 0
        · simp only [if_pos hd]
          by_cases hl : (L.length : Int) = (l.length : Int)
          · simp only [if_pos hl]
            refine Ev.bind hc ?_
            exact Ev.pure.of_eq (by simp [hd, hl])
          · simp only [if_neg hl]
            exact Ev.pure.of_eq (by simp [hl])
        · simp only [if_neg hd]; exact Ev.pure.of_eq (by simp [hd])
    | false =>
      simp only [Bool.false_eq_true, if_false]
      cases o with
      | false => exact Ev.pure
      | true =>
        simp only [if_true, Bool.true_and]
        cases hv : val d with
        | true =>
          simp only [if_true, Bool.true_and]
          by_cases hl : (L.length : Int) = (l.length : Int)
          · simp only [if_pos hl]
            refine Ev.bind hc ?_
            exact Ev.pure.of_eq (by simp [hl])
          · simp only [if_neg hl]
            exact Ev.pure.of_eq (by simp [hl])
        | false => exact Ev.pure
theorem takes2_ok (c b n d : Int) (l : List Int) (i : Int) (hb : l.length ≤ maxLen) : Ev (fun k => kind_Takes.f k c b n d l i) (if mayv c b n d l i then (tk c b n i).1 else []) := by
  unfold kind_Takes.f
  refine Ev.bind (may_ok c b n d l i hb) ?_
  cases hm : mayv c b n d l i with
  | false => exact Ev.pure
  | true =>
    have hs : shp b n = true := by unfold mayv at hm; rw [Bool.and_eq_true] at hm; exact hm.1
    simp only [if_true, takes_ok c d i l hs, Option.bind_some]
    exact Ev.pure
def gv (c b n : Int) : Int × Int := if 10 ≤ c ∧ c ≤ 12 then (1, 1) else if c = 22 then (b, 1) else (b, n)
theorem gives_ok (c b n d : Int) (l : List Int) (i : Int) (hb : l.length ≤ maxLen) : Ev (fun k => kind_Gives.f k c b n d l i) (if mayv c b n d l i && !(sto c) then gv c b n else (0, 0)) := by
  unfold kind_Gives.f
  refine Ev.bind (may_ok c b n d l i hb) ?_
  have h0 : ∀ x, Ev (fun k => kind_Gives.j0 k x c b n d l i) (if x then (0, 0) else gv c b n) := by
    intro x
    refine Ev.succ ?_; simp only [kind_Gives.j0]
    cases x with
    | true => exact Ev.ifp rfl Ev.pure
    | false =>
      refine Ev.ifn (by decide) ?_
      have h1 : ∀ y, Ev (fun k => kind_Gives.j1 k y c b n d l i) (if y then (1, 1) else if c = 22 then (b, 1) else (b, n)) := by
        intro y
        refine Ev.succ ?_; simp only [kind_Gives.j1]
        cases y with
        | true => exact Ev.ifp rfl Ev.pure
        | false =>
          refine Ev.ifn (by decide) ?_
          by_cases h : c = 22
          · exact Ev.ifp h (Ev.pure.of_eq (by simp [h]))
          · exact Ev.ifn h (Ev.pure.of_eq (by simp [h]))
      by_cases h : c ≥ 10
      · refine Ev.ifp h ((h1 _).of_eq ?_)
        unfold gv
        by_cases h2 : c ≤ 12
        · simp [h2, show 10 ≤ c from h]
        · simp [h2]
      · refine Ev.ifn h ((h1 _).of_eq ?_)
        simp only [Bool.false_eq_true, if_false]
        unfold gv
        rw [if_neg (fun e : 10 ≤ c ∧ c ≤ 12 => h e.1)]
  cases hm : mayv c b n d l i with
  | false => exact (h0 true).of_eq rfl
  | true =>
    simp only [if_true, stores_ok, Option.bind_some]
    exact (h0 _).of_eq (by cases sto c <;> rfl)
theorem awake_ok : locksteplaw03_awake.f 40 = some true := by decide +kernel
theorem awake_ev : Ev (fun k => locksteplaw03_awake.f k) true := Ev.of_at (fun k => locksteplaw03_awake.mono k) awake_ok
end Go.Proofs.Ytblhphjdjpodcaa.KP
namespace Go.Proofs.Ytblhphjdjpodcaa.KP
open Go.RowKit Go.Proofs.Ytblhphjdjpodcaa.Q Go.Proofs.YtblhphjdjpodcaaW.PrintWords
set_option linter.unusedSimpArgs false
set_option linter.unusedVariables false

theorem rwm_ok (b : Int) : lockstepref01_May.f b = some (wm b) := by
  unfold lockstepref01_May.f wm
  by_cases h1 : b = 1
  · simp [h1]
  by_cases h2 : b = 8
  · simp [h2]
  by_cases h3 : b = 16
  · simp [h3]
  by_cases h4 : b = 32
  · simp [h4]
  simp [h1, h2, h3, h4]
theorem rshape_ok (b n : Int) : lockstepref03_Shape.f b n = some (shp b n) := by
  rw [← shape_ok]
  unfold lockstepref03_Shape.f kind_Shape.f
  rw [rwm_ok, wm_ok, Option.bind_some, Option.bind_some]
  cases hb : wm b with
  | false => rfl
  | true =>
    have e : (b > 1) = (b ≥ 8) := by
      rcases wm_cases hb with h | h | h | h | h <;> subst h <;> simp
    simp only [if_true, e]
theorem rvalue_ok (v : Int) : lockstepref03_Value.f v = some (val v) := by
  unfold lockstepref03_Value.f val
  by_cases h : v > 0
  · rw [if_pos h]
    have : (v < 1024) = (1 ≤ v ∧ v ≤ 1023) := by apply propext; omega
    simp only [this]
  · rw [if_neg h]
    have : ¬ (1 ≤ v ∧ v ≤ 1023) := by omega
    simp [this]
def ra (c n : Int) : Int :=
  if c = 0 then 0 else if (1 ≤ c ∧ c ≤ 12) ∨ c = 17 then 2 else if c = 13 ∨ c = 18 ∨ c = 19 then 3 else if c = 14 ∨ c = 15 ∨ c = 16 ∨ c = 22 then 1 else if c = 20 then 4 else if c = 21 then n else -1
theorem kinds {c : Int} (h : 0 ≤ c ∧ c ≤ 22) : c = 0 ∨ c = 1 ∨ c = 2 ∨ c = 3 ∨ c = 4 ∨ c = 5 ∨ c = 6 ∨ c = 7 ∨ c = 8 ∨ c = 9 ∨ c = 10 ∨ c = 11 ∨ c = 12 ∨ c = 13 ∨ c = 14 ∨ c = 15 ∨ c = 16 ∨ c = 17 ∨ c = 18 ∨ c = 19 ∨ c = 20 ∨ c = 21 ∨ c = 22 := by omega
theorem rargs_ok (c b n d : Int) (l : List Int) (i : Int) : Ev (fun k => lockstepref03_Args.f k c b n d l i) (ra c n) := by
  refine ⟨5, fun k hk => ?_⟩
  obtain ⟨k, rfl⟩ : ∃ m, k = m + 5 := ⟨k - 5, by omega⟩
  by_cases h : 0 ≤ c ∧ c ≤ 22
  · rcases kinds h with h | h | h | h | h | h | h | h | h | h | h | h | h | h | h | h | h | h | h | h | h | h | h <;> subst h <;>
      simp [lockstepref03_Args.f, lockstepref03_Args.j0, lockstepref03_Args.j1, lockstepref03_Args.j2, ra]
  · have n0 : c ≠ 0 := by omega
    have n1 : c ≠ 1 := by omega
    have n2 : c ≠ 2 := by omega
    have n3 : c ≠ 3 := by omega
    have n4 : c ≠ 4 := by omega
    have n5 : c ≠ 5 := by omega
    have n6 : c ≠ 6 := by omega
    have n7 : c ≠ 7 := by omega
    have n8 : c ≠ 8 := by omega
    have n9 : c ≠ 9 := by omega
    have n10 : c ≠ 10 := by omega
    have n11 : c ≠ 11 := by omega
    have n12 : c ≠ 12 := by omega
    have n13 : c ≠ 13 := by omega
    have n14 : c ≠ 14 := by omega
    have n15 : c ≠ 15 := by omega
    have n16 : c ≠ 16 := by omega
    have n17 : c ≠ 17 := by omega
    have n18 : c ≠ 18 := by omega
    have n19 : c ≠ 19 := by omega
    have n20 : c ≠ 20 := by omega
    have n21 : c ≠ 21 := by omega
    have n22 : c ≠ 22 := by omega
    have e : ra c n = -1 := by
      unfold ra
      rw [if_neg n0, if_neg (by omega), if_neg (by omega), if_neg (by omega), if_neg n20, if_neg n21]
    rw [e]
    simp [lockstepref03_Args.f, lockstepref03_Args.j0, lockstepref03_Args.j1, lockstepref03_Args.j2, n0, n1, n2, n3, n4, n5, n6, n7, n8, n9, n10, n11, n12, n13, n14, n15, n16, n17, n18, n19, n20, n21, n22]
theorem cutv_eq {b i : Int} (m : Nat) (hm : m ≤ 64) (e : wrap64 (64 - b) = (m : Int)) : cutv i b = (i * 2 ^ m) % 18446744073709551616 / 2 ^ m := by
  unfold cutv shr shl
  rw [e, Int.toNat_natCast, Nat.min_eq_left (show m ≤ IntKind.u64.bits from hm), IntKind.wrap_u64]
theorem rcut_ok {b i : Int} (hb : wm b = true) (h0 : 0 ≤ i) (h1 : i < 18446744073709551616) : ∃ v, lockstepref01_Cut.f i b = some v ∧ (v == i) = (cutv i b == i) := by
  unfold lockstepref01_Cut.f
  rw [rwm_ok, hb, Option.bind_some, if_pos rfl]
  have key : ∀ v w : Int, v = w → (v == i) = (w == i) := fun v w e => by rw [e]
  rcases wm_cases hb with h | h | h | h | h <;> subst h
  · refine ⟨Int.tmod i 2, by rw [if_neg (by decide), if_pos (by decide +kernel), if_neg (by decide +kernel)]; rw [show shl .u64 1 (IntKind.u64.wrap 1) = 2 by decide +kernel], key _ _ ?_⟩
    rw [Int.tmod_eq_emod_of_nonneg h0, cutv_eq 63 (by decide) (by decide +kernel), show (2 : Int) ^ 63 = 9223372036854775808 by decide +kernel]; omega
  · refine ⟨Int.tmod i 256, by rw [if_neg (by decide), if_pos (by decide +kernel), if_neg (by decide +kernel)]; rw [show shl .u64 1 (IntKind.u64.wrap 8) = 256 by decide +kernel], key _ _ ?_⟩
    rw [Int.tmod_eq_emod_of_nonneg h0, cutv_eq 56 (by decide) (by decide +kernel), show (2 : Int) ^ 56 = 72057594037927936 by decide +kernel]; omega
  · refine ⟨Int.tmod i 65536, by rw [if_neg (by decide), if_pos (by decide +kernel), if_neg (by decide +kernel)]; rw [show shl .u64 1 (IntKind.u64.wrap 16) = 65536 by decide +kernel], key _ _ ?_⟩
    rw [Int.tmod_eq_emod_of_nonneg h0, cutv_eq 48 (by decide) (by decide +kernel), show (2 : Int) ^ 48 = 281474976710656 by decide +kernel]; omega
  · refine ⟨Int.tmod i 4294967296, by rw [if_neg (by decide), if_pos (by decide +kernel), if_neg (by decide +kernel)]; rw [show shl .u64 1 (IntKind.u64.wrap 32) = 4294967296 by decide +kernel], key _ _ ?_⟩
    rw [Int.tmod_eq_emod_of_nonneg h0, cutv_eq 32 (by decide) (by decide +kernel), show (2 : Int) ^ 32 = 4294967296 by decide +kernel]; omega
  · refine ⟨i, by rw [if_pos rfl], key _ _ ?_⟩
    rw [cutv_eq 0 (by decide) (by decide +kernel), show (2 : Int) ^ 0 = 1 by decide +kernel]; omega
theorem rfits_ok {c b n d i : Int} (l : List Int) (hc : 0 ≤ c ∧ c ≤ 22) (hs : shp b n = true) (h0 : 0 ≤ i) (h1 : i < 18446744073709551616) : Ev (fun k => lockstepref03_Fits.f k c b n d l i) (tk c b n i).2 := by
  have hb : wm b = true := by unfold shp at hs; rw [Bool.and_eq_true] at hs; exact hs.1
  have hn : n = 1 ∨ ¬ n < 2 := by have := (shp_cases hs).2; omega
  refine ⟨5, fun k hk => ?_⟩
  obtain ⟨k, rfl⟩ : ∃ m, k = m + 5 := ⟨k - 5, by omega⟩
  obtain ⟨v, hv1, hv2⟩ := rcut_ok (i := i) hb h0 h1
  rcases hn with hn | hn
  · subst hn
    rcases kinds hc with h | h | h | h | h | h | h | h | h | h | h | h | h | h | h | h | h | h | h | h | h | h | h <;> subst h <;> by_cases h8 : b < 8 <;>
    first
    | (simp [lockstepref03_Fits.f, lockstepref03_Fits.j0, lockstepref03_Fits.j1, lockstepref03_Fits.j2, tk, rwm_ok, hv1, hv2, h8]; done)
    | (by_cases hi : i < IntKind.u64.wrap b <;> by_cases hj : IntKind.u64.wrap b < i <;> by_cases hk : i ≤ 64 <;> simp [lockstepref03_Fits.f, lockstepref03_Fits.j0, lockstepref03_Fits.j1, lockstepref03_Fits.j2, tk, rwm_ok, hv1, hv2, h8, hi, hj, hk]; done)
    | (by_cases hi : i < IntKind.u64.wrap n <;> simp [lockstepref03_Fits.f, lockstepref03_Fits.j0, lockstepref03_Fits.j1, lockstepref03_Fits.j2, tk, rwm_ok, hv1, hv2, h8, hi]; done)
    | (simp [lockstepref03_Fits.f, lockstepref03_Fits.j0, lockstepref03_Fits.j1, lockstepref03_Fits.j2, tk, rwm_ok, hv1, hv2, h8] <;> omega)
  · have hne : n ≠ 1 := by omega
    rcases kinds hc with h | h | h | h | h | h | h | h | h | h | h | h | h | h | h | h | h | h | h | h | h | h | h <;> subst h <;> by_cases h8 : b < 8 <;>
    first
    | (simp [lockstepref03_Fits.f, lockstepref03_Fits.j0, lockstepref03_Fits.j1, lockstepref03_Fits.j2, tk, rwm_ok, hv1, hv2, h8, hn, hne]; done)
    | (by_cases hi : i < IntKind.u64.wrap b <;> by_cases hj : IntKind.u64.wrap b < i <;> by_cases hk : i ≤ 64 <;> simp [lockstepref03_Fits.f, lockstepref03_Fits.j0, lockstepref03_Fits.j1, lockstepref03_Fits.j2, tk, rwm_ok, hv1, hv2, h8, hn, hne, hi, hj, hk]; done)
    | (by_cases hi : i < IntKind.u64.wrap n <;> simp [lockstepref03_Fits.f, lockstepref03_Fits.j0, lockstepref03_Fits.j1, lockstepref03_Fits.j2, tk, rwm_ok, hv1, hv2, h8, hn, hne, hi]; done)
    | (simp [lockstepref03_Fits.f, lockstepref03_Fits.j0, lockstepref03_Fits.j1, lockstepref03_Fits.j2, tk, rwm_ok, hv1, hv2, h8, hn, hne] <;> omega)
theorem tk_len {c b n : Int} (i : Int) (hc : 0 ≤ c ∧ c ≤ 22) (hn : 1 ≤ n) : ((tk c b n i).1.length : Int) = ra c n := by
  rcases kinds hc with h | h | h | h | h | h | h | h | h | h | h | h | h | h | h | h | h | h | h | h | h | h | h <;> subst h <;> simp [tk, ra] <;> omega
theorem tk_no {c b n i : Int} (hc : ¬ (0 ≤ c ∧ c ≤ 22)) : tk c b n i = ([], false) := by
  unfold tk
  rw [if_neg (by omega), if_neg (by omega), if_neg (by omega), if_neg (by omega), if_neg (by omega), if_neg (by omega), if_neg (by omega), if_neg (by omega), if_neg (by omega), if_neg (by omega), if_neg (by omega), if_neg (by omega)]
theorem ra_no {c n : Int} (hc : ¬ (0 ≤ c ∧ c ≤ 22)) : ra c n = -1 := by
  unfold ra
  rw [if_neg (by omega), if_neg (by omega), if_neg (by omega), if_neg (by omega), if_neg (by omega), if_neg (by omega)]
theorem shp_n {b n : Int} (h : shp b n = true) : 1 ≤ n := by have := (shp_cases h).2; omega
def dstv (c d : Int) : Bool := if sto c then d == 0 else val d
theorem rmay_l0 (c b n d : Int) (l : List Int) (i : Int) (hb : l.length ≤ maxLen) (m : Nat) : ∀ j : Nat, j ≤ l.length → l.length - j = m →
    Ev (fun k => lockstepref03_May.l0 k (j : Int) c b n d l i) ((l.drop j).all val && dstv c d) := by
  have hml : maxLen ≤ 9223372036854775807 := by decide
  induction m with
  | zero =>
    intro j hj hd
    refine Ev.succ ?_; simp only [lockstepref03_May.l0]
    refine Ev.ifn (by omega) ?_
    rw [List.drop_eq_nil_of_le (by omega)]
    simp only [List.all_nil, Bool.true_and, rvalue_ok, Option.bind_some]
    unfold dstv sto
    by_cases h17 : c = 17
    · exact Ev.ifp h17 (Ev.pure.of_eq (by simp [h17]))
    refine Ev.ifn h17 ?_
    by_cases h19 : c = 19
    · exact Ev.ifp h19 (Ev.pure.of_eq (by simp [h19]))
    · exact Ev.ifn h19 (Ev.pure.of_eq (by simp [h17, h19]))
  | succ m ih =>
    intro j hj hd
    have hj' : j < l.length := by omega
    have hdr : l.drop j = l.getD j 0 :: l.drop (j + 1) := by rw [List.drop_eq_getElem_cons hj', List.getD_eq_getElem?_getD, List.getElem?_eq_getElem hj']; rfl
    have hrd : rd l (j : Int) = l.getD j 0 := by simp only [rd, Int.toNat_natCast]
    refine Ev.succ ?_; simp only [lockstepref03_May.l0]
    refine Ev.ifp (by omega) (Ev.ifp (by omega) ?_)
    simp only [hrd, rvalue_ok, Option.bind_some]
    rw [hdr, List.all_cons]
    cases hv : val (l.getD j 0) with
    | true =>
      refine Ev.ifp rfl ?_
      rw [wrap_nat (by omega), Bool.true_and]; exact ih (j + 1) (by omega) (by omega)
    | false => exact Ev.ifn (by decide) Ev.pure
theorem all_any (l : List Int) : l.all val = !(l.any fun v => !val v) := by
  induction l with
  | nil => rfl
  | cons x l ih => rw [List.all_cons, List.any_cons, ih]; cases val x <;> simp
theorem rmay_ok (c b n d : Int) (l : List Int) (i : Int) (hb : l.length ≤ maxLen) (h0 : 0 ≤ i) (h1 : i < 18446744073709551616) : Ev (fun k => lockstepref03_May.f k c b n d l i) (mayv c b n d l i) := by
  unfold lockstepref03_May.f
  simp only [rshape_ok, Option.bind_some]
  have hno : Ev (fun k => lockstepref03_May.j0 k true c b n d l i) false := by
    refine Ev.succ ?_; simp only [lockstepref03_May.j0]; exact Ev.ifp trivial Ev.pure
  cases hs : shp b n with
  | false => exact (Ev.ifn (by decide) hno).of_eq (by unfold mayv; rw [hs]; rfl)
  | true =>
    refine Ev.ifp rfl ?_
    refine Ev.bind (rargs_ok c b n d l i) ?_
    have hn := shp_n hs
    by_cases hc : 0 ≤ c ∧ c ≤ 22
    · have hl := tk_len (b := b) i hc hn
      by_cases hr : ra c n = (l.length : Int)
      · refine Ev.ifp hr (Ev.bind (rfits_ok l hc hs h0 h1) ?_)
        refine Ev.succ ?_; simp only [lockstepref03_May.j0]
        have e : mayv c b n d l i = ((tk c b n i).2 && (l.all val && dstv c d)) := by
          unfold mayv
          rw [hs, decide_eq_true (hl.trans hr), all_any]
          unfold dstv
          cases (tk c b n i).2 <;> cases (if sto c then d == 0 else val d) <;> cases (l.any fun v => !val v) <;> rfl
        rw [e]
        cases (tk c b n i).2 with
        | false => exact Ev.ifp rfl Ev.pure
        | true =>
          refine Ev.ifn (by decide) ?_
          exact rmay_l0 c b n d l i hb l.length 0 (by omega) (by omega)
      · refine (Ev.ifn hr hno).of_eq ?_
        unfold mayv
        rw [decide_eq_false (fun e => hr (hl.symm.trans e))]
        simp
    · have hr := ra_no (n := n) hc
      refine (Ev.ifn (by rw [hr]; omega) hno).of_eq ?_
      unfold mayv
      rw [tk_no hc]; simp
end Go.Proofs.Ytblhphjdjpodcaa.KP
namespace Go.Proofs.Ytblhphjdjpodcaa.KP
open Go.RowKit Go.Proofs.Ytblhphjdjpodcaa.Q Go.Proofs.YtblhphjdjpodcaaW.PrintWords
set_option linter.unusedSimpArgs false
set_option linter.unusedVariables false

theorem rgives_ok (c b n d : Int) (l : List Int) (i : Int) (hb : l.length ≤ maxLen) (h0 : 0 ≤ i) (h1 : i < 18446744073709551616) : Ev (fun k => lockstepref03_Gives.f k c b n d l i) (if mayv c b n d l i && !(sto c) then gv c b n else (0, 0)) := by
  unfold lockstepref03_Gives.f
  refine Ev.bind (rmay_ok c b n d l i hb h0 h1) ?_
  have hj : ∀ x, Ev (fun k => lockstepref03_Gives.j0 k x c b n d l i) (if x then (0, 0) else gv c b n) := by
    intro x
    refine Ev.succ ?_; simp only [lockstepref03_Gives.j0]
    cases x with
    | true => exact Ev.ifp rfl Ev.pure
    | false =>
      refine Ev.ifn (by decide) ?_
      have h1 : ∀ y, Ev (fun k => lockstepref03_Gives.j1 k y c b n d l i) (if y then (1, 1) else if c = 22 then (b, 1) else (b, n)) := by
        intro y
        refine Ev.succ ?_; simp only [lockstepref03_Gives.j1]
        cases y with
        | true => exact Ev.ifp rfl Ev.pure
        | false =>
          refine Ev.ifn (by decide) ?_
          by_cases h : c = 22
          · exact Ev.ifp h (Ev.pure.of_eq (by simp [h]))
          · exact Ev.ifn h (Ev.pure.of_eq (by simp [h]))
      by_cases h : c ≥ 10
      · refine Ev.ifp h ((h1 _).of_eq ?_)
        unfold gv
        by_cases h2 : c ≤ 12
        · simp [h2, show 10 ≤ c from h]
        · simp [h2]
      · refine Ev.ifn h ((h1 _).of_eq ?_)
        simp only [Bool.false_eq_true, if_false]
        unfold gv
        rw [if_neg (fun e : 10 ≤ c ∧ c ≤ 12 => h e.1)]
  cases hm : mayv c b n d l i with
  | false => exact (Ev.ifn (by decide) (hj true)).of_eq rfl
  | true =>
    refine Ev.ifp rfl ?_
    by_cases h17 : c = 17
    · exact (Ev.ifp h17 (hj true)).of_eq (by subst h17; rfl)
    · refine (Ev.ifn h17 (hj _)).of_eq ?_
      have : sto c = (c == 19) := by simp [sto, h17]
      rw [this]; cases (c == 19) <;> rfl
theorem rpure_ok (c : Int) : lockstepref03_Pure.f c = kind_Pure.f c := by
  unfold lockstepref03_Pure.f kind_Pure.f
  by_cases h : 0 ≤ c ∧ c ≤ 22
  · rcases kinds h with e | e | e | e | e | e | e | e | e | e | e | e | e | e | e | e | e | e | e | e | e | e | e <;> subst e <;> decide
  · simp only [if_neg (show ¬ c = 4 by omega), if_neg (show ¬ c = 16 by omega), if_neg (show ¬ c = 17 by omega), if_neg (show ¬ c = 18 by omega), if_neg (show ¬ c = 19 by omega), if_neg (show ¬ c = 20 by omega)]
    by_cases h0 : c ≥ 0
    · have h2 : ¬ c ≤ 22 := by omega
      rw [if_pos h0, if_pos h0, if_neg h2, decide_eq_false h2]
    · rw [if_neg h0, if_neg h0]
/-- The shape of an argument. -/
def el (c b n i : Int) (j : Nat) : S37 :=
  if c = 13 ∨ c = 20 then (if j = 0 then ⟨1, 1⟩ else ⟨b, n⟩)
  else if c = 14 ∨ c = 15 then ⟨wrap64 i, 1⟩
  else if c = 16 ∨ c = 17 then (if j = 0 then ⟨64, 1⟩ else ⟨b, n⟩)
  else if c = 18 ∨ c = 19 then (if j = 1 then ⟨64, 1⟩ else if j = 0 then ⟨1, 1⟩ else ⟨b, n⟩)
  else if c = 21 then ⟨b, 1⟩ else ⟨b, n⟩
theorem rtakes_step {c b n d : Int} {l : List Int} {i : Int} {out : List S37} {j : Nat} {v : List S37} (hj : j < l.length) (hl : l.length < 9223372036854775807) (ho : out.length < 8796093022208)
    (h : Ev (fun k => lockstepref03_Takes.l0 k (out ++ [el c b n i j]) ((j + 1 : Nat) : Int) c b n d l i) v) : Ev (fun k => lockstepref03_Takes.l0 k out (j : Int) c b n d l i) v := by
  have hw : wrap64 ((j : Int) + 1) = ((j + 1 : Nat) : Int) := wrap_nat (by omega)
  by_cases h13 : c = 13 ∨ c = 20
  · by_cases hz : j = 0
    · rw [show el c b n i j = ⟨1, 1⟩ by unfold el; rw [if_pos h13, if_pos hz]] at h
      rcases h13 with e | e <;> subst e <;> (refine Ev.succ ?_; simp only [lockstepref03_Takes.l0]; (repeat (first | ((with_reducible refine Ev.ifp ?cc ?_); (case cc => first | trivial | omega | decide)) | ((with_reducible refine Ev.ifn ?cc ?_); (case cc => first | omega | decide)))); refine Ev.succ ?_; simp only [lockstepref03_Takes.j1]; (repeat (first | ((with_reducible refine Ev.ifp ?cc ?_); (case cc => first | trivial | omega | decide)) | ((with_reducible refine Ev.ifn ?cc ?_); (case cc => first | omega | decide)))); rw [hw]; exact h)
    · rw [show el c b n i j = ⟨b, n⟩ by unfold el; rw [if_pos h13, if_neg hz]] at h
      rcases h13 with e | e <;> subst e <;> (refine Ev.succ ?_; simp only [lockstepref03_Takes.l0]; (repeat (first | ((with_reducible refine Ev.ifp ?cc ?_); (case cc => first | trivial | omega | decide)) | ((with_reducible refine Ev.ifn ?cc ?_); (case cc => first | omega | decide)))); refine Ev.succ ?_; simp only [lockstepref03_Takes.j1]; (repeat (first | ((with_reducible refine Ev.ifp ?cc ?_); (case cc => first | trivial | omega | decide)) | ((with_reducible refine Ev.ifn ?cc ?_); (case cc => first | omega | decide)))); rw [hw]; exact h)
  by_cases h14 : c = 14 ∨ c = 15
  · rw [show el c b n i j = ⟨wrap64 i, 1⟩ by unfold el; rw [if_neg h13, if_pos h14]] at h
    rcases h14 with e | e <;> subst e <;> (refine Ev.succ ?_; simp only [lockstepref03_Takes.l0]; (repeat (first | ((with_reducible refine Ev.ifp ?cc ?_); (case cc => first | trivial | omega | decide)) | ((with_reducible refine Ev.ifn ?cc ?_); (case cc => first | omega | decide)))); refine Ev.succ ?_; simp only [lockstepref03_Takes.j1]; (repeat (first | ((with_reducible refine Ev.ifp ?cc ?_); (case cc => first | trivial | omega | decide)) | ((with_reducible refine Ev.ifn ?cc ?_); (case cc => first | omega | decide)))); refine Ev.succ ?_; simp only [lockstepref03_Takes.j2]; (repeat (first | ((with_reducible refine Ev.ifp ?cc ?_); (case cc => first | trivial | omega | decide)) | ((with_reducible refine Ev.ifn ?cc ?_); (case cc => first | omega | decide)))); rw [hw]; exact h)
  by_cases h16 : c = 16 ∨ c = 17
  · by_cases hz : j = 0
    · rw [show el c b n i j = ⟨64, 1⟩ by unfold el; rw [if_neg h13, if_neg h14, if_pos h16, if_pos hz]] at h
      rcases h16 with e | e <;> subst e <;> (refine Ev.succ ?_; simp only [lockstepref03_Takes.l0]; (repeat (first | ((with_reducible refine Ev.ifp ?cc ?_); (case cc => first | trivial | omega | decide)) | ((with_reducible refine Ev.ifn ?cc ?_); (case cc => first | omega | decide)))); refine Ev.succ ?_; simp only [lockstepref03_Takes.j1]; (repeat (first | ((with_reducible refine Ev.ifp ?cc ?_); (case cc => first | trivial | omega | decide)) | ((with_reducible refine Ev.ifn ?cc ?_); (case cc => first | omega | decide)))); refine Ev.succ ?_; simp only [lockstepref03_Takes.j2]; (repeat (first | ((with_reducible refine Ev.ifp ?cc ?_); (case cc => first | trivial | omega | decide)) | ((with_reducible refine Ev.ifn ?cc ?_); (case cc => first | omega | decide)))); refine Ev.succ ?_; simp only [lockstepref03_Takes.j3]; (repeat (first | ((with_reducible refine Ev.ifp ?cc ?_); (case cc => first | trivial | omega | decide)) | ((with_reducible refine Ev.ifn ?cc ?_); (case cc => first | omega | decide)))); rw [hw]; exact h)
    · rw [show el c b n i j = ⟨b, n⟩ by unfold el; rw [if_neg h13, if_neg h14, if_pos h16, if_neg hz]] at h
      rcases h16 with e | e <;> subst e <;> (refine Ev.succ ?_; simp only [lockstepref03_Takes.l0]; (repeat (first | ((with_reducible refine Ev.ifp ?cc ?_); (case cc => first | trivial | omega | decide)) | ((with_reducible refine Ev.ifn ?cc ?_); (case cc => first | omega | decide)))); refine Ev.succ ?_; simp only [lockstepref03_Takes.j1]; (repeat (first | ((with_reducible refine Ev.ifp ?cc ?_); (case cc => first | trivial | omega | decide)) | ((with_reducible refine Ev.ifn ?cc ?_); (case cc => first | omega | decide)))); refine Ev.succ ?_; simp only [lockstepref03_Takes.j2]; (repeat (first | ((with_reducible refine Ev.ifp ?cc ?_); (case cc => first | trivial | omega | decide)) | ((with_reducible refine Ev.ifn ?cc ?_); (case cc => first | omega | decide)))); refine Ev.succ ?_; simp only [lockstepref03_Takes.j3]; (repeat (first | ((with_reducible refine Ev.ifp ?cc ?_); (case cc => first | trivial | omega | decide)) | ((with_reducible refine Ev.ifn ?cc ?_); (case cc => first | omega | decide)))); rw [hw]; exact h)
  by_cases h18 : c = 18 ∨ c = 19
  · by_cases hz : j = 0
    · rw [show el c b n i j = ⟨1, 1⟩ by unfold el; rw [if_neg h13, if_neg h14, if_neg h16, if_pos h18, if_neg (by omega), if_pos hz]] at h
      rcases h18 with e | e <;> subst e <;> (refine Ev.succ ?_; simp only [lockstepref03_Takes.l0]; (repeat (first | ((with_reducible refine Ev.ifp ?cc ?_); (case cc => first | trivial | omega | decide)) | ((with_reducible refine Ev.ifn ?cc ?_); (case cc => first | omega | decide)))); refine Ev.succ ?_; simp only [lockstepref03_Takes.j1]; (repeat (first | ((with_reducible refine Ev.ifp ?cc ?_); (case cc => first | trivial | omega | decide)) | ((with_reducible refine Ev.ifn ?cc ?_); (case cc => first | omega | decide)))); refine Ev.succ ?_; simp only [lockstepref03_Takes.j2]; (repeat (first | ((with_reducible refine Ev.ifp ?cc ?_); (case cc => first | trivial | omega | decide)) | ((with_reducible refine Ev.ifn ?cc ?_); (case cc => first | omega | decide)))); refine Ev.succ ?_; simp only [lockstepref03_Takes.j3]; (repeat (first | ((with_reducible refine Ev.ifp ?cc ?_); (case cc => first | trivial | omega | decide)) | ((with_reducible refine Ev.ifn ?cc ?_); (case cc => first | omega | decide)))); refine Ev.succ ?_; simp only [lockstepref03_Takes.j4]; (repeat (first | ((with_reducible refine Ev.ifp ?cc ?_); (case cc => first | trivial | omega | decide)) | ((with_reducible refine Ev.ifn ?cc ?_); (case cc => first | omega | decide)))); rw [hw]; exact h)
    · by_cases hz1 : j = 1
      · rw [show el c b n i j = ⟨64, 1⟩ by unfold el; rw [if_neg h13, if_neg h14, if_neg h16, if_pos h18, if_pos hz1]] at h
        rcases h18 with e | e <;> subst e <;> (refine Ev.succ ?_; simp only [lockstepref03_Takes.l0]; (repeat (first | ((with_reducible refine Ev.ifp ?cc ?_); (case cc => first | trivial | omega | decide)) | ((with_reducible refine Ev.ifn ?cc ?_); (case cc => first | omega | decide)))); refine Ev.succ ?_; simp only [lockstepref03_Takes.j1]; (repeat (first | ((with_reducible refine Ev.ifp ?cc ?_); (case cc => first | trivial | omega | decide)) | ((with_reducible refine Ev.ifn ?cc ?_); (case cc => first | omega | decide)))); refine Ev.succ ?_; simp only [lockstepref03_Takes.j2]; (repeat (first | ((with_reducible refine Ev.ifp ?cc ?_); (case cc => first | trivial | omega | decide)) | ((with_reducible refine Ev.ifn ?cc ?_); (case cc => first | omega | decide)))); refine Ev.succ ?_; simp only [lockstepref03_Takes.j3]; (repeat (first | ((with_reducible refine Ev.ifp ?cc ?_); (case cc => first | trivial | omega | decide)) | ((with_reducible refine Ev.ifn ?cc ?_); (case cc => first | omega | decide)))); refine Ev.succ ?_; simp only [lockstepref03_Takes.j4]; (repeat (first | ((with_reducible refine Ev.ifp ?cc ?_); (case cc => first | trivial | omega | decide)) | ((with_reducible refine Ev.ifn ?cc ?_); (case cc => first | omega | decide)))); rw [hw]; exact h)
      · rw [show el c b n i j = ⟨b, n⟩ by unfold el; rw [if_neg h13, if_neg h14, if_neg h16, if_pos h18, if_neg hz1, if_neg hz]] at h
        rcases h18 with e | e <;> subst e <;> (refine Ev.succ ?_; simp only [lockstepref03_Takes.l0]; (repeat (first | ((with_reducible refine Ev.ifp ?cc ?_); (case cc => first | trivial | omega | decide)) | ((with_reducible refine Ev.ifn ?cc ?_); (case cc => first | omega | decide)))); refine Ev.succ ?_; simp only [lockstepref03_Takes.j1]; (repeat (first | ((with_reducible refine Ev.ifp ?cc ?_); (case cc => first | trivial | omega | decide)) | ((with_reducible refine Ev.ifn ?cc ?_); (case cc => first | omega | decide)))); refine Ev.succ ?_; simp only [lockstepref03_Takes.j2]; (repeat (first | ((with_reducible refine Ev.ifp ?cc ?_); (case cc => first | trivial | omega | decide)) | ((with_reducible refine Ev.ifn ?cc ?_); (case cc => first | omega | decide)))); refine Ev.succ ?_; simp only [lockstepref03_Takes.j3]; (repeat (first | ((with_reducible refine Ev.ifp ?cc ?_); (case cc => first | trivial | omega | decide)) | ((with_reducible refine Ev.ifn ?cc ?_); (case cc => first | omega | decide)))); refine Ev.succ ?_; simp only [lockstepref03_Takes.j4]; (repeat (first | ((with_reducible refine Ev.ifp ?cc ?_); (case cc => first | trivial | omega | decide)) | ((with_reducible refine Ev.ifn ?cc ?_); (case cc => first | omega | decide)))); rw [hw]; exact h)
  have e13 : (c == 13) = false := beq_eq_false_iff_ne.mpr fun e => h13 (.inl e)
  have e20 : (c == 20) = false := beq_eq_false_iff_ne.mpr fun e => h13 (.inr e)
  have e14 : (c == 14) = false := beq_eq_false_iff_ne.mpr fun e => h14 (.inl e)
  have e15 : (c == 15) = false := beq_eq_false_iff_ne.mpr fun e => h14 (.inr e)
  have e16 : (c == 16) = false := beq_eq_false_iff_ne.mpr fun e => h16 (.inl e)
  have e17 : (c == 17) = false := beq_eq_false_iff_ne.mpr fun e => h16 (.inr e)
  have e18 : (c == 18) = false := beq_eq_false_iff_ne.mpr fun e => h18 (.inl e)
  have e19 : (c == 19) = false := beq_eq_false_iff_ne.mpr fun e => h18 (.inr e)
  by_cases h21 : c = 21
  · rw [show el c b n i j = ⟨b, 1⟩ by unfold el; rw [if_neg h13, if_neg h14, if_neg h16, if_neg h18, if_pos h21]] at h
    refine Ev.succ ?_; simp only [lockstepref03_Takes.l0, e13, e20, e14, e15, e16, e17, e18, e19]; (repeat (first | ((with_reducible refine Ev.ifp ?cc ?_); (case cc => first | trivial | omega | decide)) | ((with_reducible refine Ev.ifn ?cc ?_); (case cc => first | omega | decide)))); refine Ev.succ ?_; simp only [lockstepref03_Takes.j1, e13, e20, e14, e15, e16, e17, e18, e19]; (repeat (first | ((with_reducible refine Ev.ifp ?cc ?_); (case cc => first | trivial | omega | decide)) | ((with_reducible refine Ev.ifn ?cc ?_); (case cc => first | omega | decide)))); refine Ev.succ ?_; simp only [lockstepref03_Takes.j2, e13, e20, e14, e15, e16, e17, e18, e19]; (repeat (first | ((with_reducible refine Ev.ifp ?cc ?_); (case cc => first | trivial | omega | decide)) | ((with_reducible refine Ev.ifn ?cc ?_); (case cc => first | omega | decide)))); refine Ev.succ ?_; simp only [lockstepref03_Takes.j3, e13, e20, e14, e15, e16, e17, e18, e19]; (repeat (first | ((with_reducible refine Ev.ifp ?cc ?_); (case cc => first | trivial | omega | decide)) | ((with_reducible refine Ev.ifn ?cc ?_); (case cc => first | omega | decide)))); refine Ev.succ ?_; simp only [lockstepref03_Takes.j4, e13, e20, e14, e15, e16, e17, e18, e19]; (repeat (first | ((with_reducible refine Ev.ifp ?cc ?_); (case cc => first | trivial | omega | decide)) | ((with_reducible refine Ev.ifn ?cc ?_); (case cc => first | omega | decide)))); rw [hw]; exact h
  · rw [show el c b n i j = ⟨b, n⟩ by unfold el; rw [if_neg h13, if_neg h14, if_neg h16, if_neg h18, if_neg h21]] at h
    refine Ev.succ ?_; simp only [lockstepref03_Takes.l0, e13, e20, e14, e15, e16, e17, e18, e19]; (repeat (first | ((with_reducible refine Ev.ifp ?cc ?_); (case cc => first | trivial | omega | decide)) | ((with_reducible refine Ev.ifn ?cc ?_); (case cc => first | omega | decide)))); refine Ev.succ ?_; simp only [lockstepref03_Takes.j1, e13, e20, e14, e15, e16, e17, e18, e19]; (repeat (first | ((with_reducible refine Ev.ifp ?cc ?_); (case cc => first | trivial | omega | decide)) | ((with_reducible refine Ev.ifn ?cc ?_); (case cc => first | omega | decide)))); refine Ev.succ ?_; simp only [lockstepref03_Takes.j2, e13, e20, e14, e15, e16, e17, e18, e19]; (repeat (first | ((with_reducible refine Ev.ifp ?cc ?_); (case cc => first | trivial | omega | decide)) | ((with_reducible refine Ev.ifn ?cc ?_); (case cc => first | omega | decide)))); refine Ev.succ ?_; simp only [lockstepref03_Takes.j3, e13, e20, e14, e15, e16, e17, e18, e19]; (repeat (first | ((with_reducible refine Ev.ifp ?cc ?_); (case cc => first | trivial | omega | decide)) | ((with_reducible refine Ev.ifn ?cc ?_); (case cc => first | omega | decide)))); refine Ev.succ ?_; simp only [lockstepref03_Takes.j4, e13, e20, e14, e15, e16, e17, e18, e19]; (repeat (first | ((with_reducible refine Ev.ifp ?cc ?_); (case cc => first | trivial | omega | decide)) | ((with_reducible refine Ev.ifn ?cc ?_); (case cc => first | omega | decide)))); rw [hw]; exact h
theorem rtakes_l0 {c b n d : Int} {l : List Int} {i : Int} (hl : l.length < 8796093022208) (m : Nat) : ∀ j : Nat, j ≤ l.length → l.length - j = m →
    Ev (fun k => lockstepref03_Takes.l0 k ((List.range j).map (el c b n i)) (j : Int) c b n d l i) ((List.range l.length).map (el c b n i)) := by
  induction m with
  | zero =>
    intro j hj hd
    obtain rfl : j = l.length := by omega
    refine Ev.succ ?_; simp only [lockstepref03_Takes.l0]
    exact Ev.ifn (by omega) Ev.pure
  | succ m ih =>
    intro j hj hd
    refine rtakes_step (by omega) (by omega) (by rw [List.length_map, List.length_range]; omega) ?_
    have e : (List.range j).map (el c b n i) ++ [el c b n i j] = (List.range (j + 1)).map (el c b n i) := by rw [List.range_succ, List.map_append]; rfl
    rw [e]; exact ih (j + 1) (by omega) (by omega)
theorem tk_el {c b n i : Int} (hc : 0 ≤ c ∧ c ≤ 22) (hs : shp b n = true) (h0 : 0 ≤ i) (ht : (tk c b n i).2 = true) : (tk c b n i).1 = (List.range (tk c b n i).1.length).map (el c b n i) := by
  have hb := (shp_cases hs).1
  have hu : IntKind.u64.wrap b = b := by rcases hb with h | h | h | h | h <;> subst h <;> decide +kernel
  rcases kinds hc with e | e | e | e | e | e | e | e | e | e | e | e | e | e | e | e | e | e | e | e | e | e | e <;> subst e
  case inr.inr.inr.inr.inr.inr.inr.inr.inr.inr.inr.inr.inr.inr.inl =>
    have : i < b := by simp [tk, hu] at ht; exact ht.2.1
    have hm : mn i 128 = i := by unfold mn; rw [if_neg (by omega)]
    simp [tk, el, hm, List.range_succ]
  case inr.inr.inr.inr.inr.inr.inr.inr.inr.inr.inr.inr.inr.inr.inr.inl =>
    have : i ≤ 64 := by simp [tk, hu] at ht; exact ht.2.2.1
    have hm : mn i 128 = i := by unfold mn; rw [if_neg (by omega)]
    simp [tk, el, hm, List.range_succ]
  all_goals first
  | (simp [tk, el, List.range_succ]; done)
  | (simp [tk]; apply List.ext_getElem <;> simp <;> intros <;> simp [el])
theorem rtakes_ok (c b n d : Int) (l : List Int) (i : Int) (hb : l.length ≤ 100) (h0 : 0 ≤ i) (h1 : i < 18446744073709551616) : Ev (fun k => lockstepref03_Takes.f k c b n d l i) (if mayv c b n d l i then (tk c b n i).1 else []) := by
  have hml : 100 ≤ maxLen := by decide
  unfold lockstepref03_Takes.f
  refine Ev.bind (rmay_ok c b n d l i (by omega) h0 h1) ?_
  cases hm : mayv c b n d l i with
  | false => exact Ev.ifn (by decide) Ev.pure
  | true =>
    refine Ev.ifp rfl ?_
    unfold mayv at hm
    simp only [Bool.and_eq_true, decide_eq_true_eq] at hm
    obtain ⟨hs, ht, _, hl, _⟩ := hm
    have hc : 0 ≤ c ∧ c ≤ 22 := Decidable.byContradiction fun e => by rw [tk_no e] at ht; cases ht
    have h := rtakes_l0 (c := c) (b := b) (n := n) (d := d) (l := l) (i := i) (by omega) l.length 0 (by omega) (by omega)
    rw [show l.length = (tk c b n i).1.length by omega, ← tk_el hc hs h0 ht] at h
    exact h
theorem shapes_self (m : Nat) : ∀ (L : List S37) (j : Nat), L.length < 9223372036854775807 → j ≤ L.length → L.length - j = m → Ev (fun k => locksteplaw03_shapes.l0 k L L (j : Int)) true := by
  induction m with
  | zero =>
    intro L j hb hj hd
    refine Ev.succ ?_; simp only [locksteplaw03_shapes.l0]
    exact Ev.ifn (by omega) Ev.pure
  | succ m ih =>
    intro L j hb hj hd
    refine Ev.succ ?_; simp only [locksteplaw03_shapes.l0]
    refine Ev.ifp (by omega) (Ev.ifp (by omega) (Ev.ifp (by omega) (Ev.ifn (by simp) ?_)))
    rw [wrap_nat (by omega)]; exact ih L (j + 1) hb (by omega) (by omega)
theorem shapes_ok (L : List S37) (hb : L.length < 9223372036854775807) : Ev (fun k => locksteplaw03_shapes.f k L L) true := by
  unfold locksteplaw03_shapes.f
  exact Ev.ifp rfl (shapes_self L.length L 0 hb (by omega) (by omega))
end Go.Proofs.Ytblhphjdjpodcaa.KP
namespace Go.Proofs.Ytblhphjdjpodcaa.KP
open Go.RowKit Go.Proofs.Ytblhphjdjpodcaa.Q Go.Proofs.YtblhphjdjpodcaaW.PrintWords
set_option linter.unusedSimpArgs false
set_option linter.unusedVariables false

theorem kpure_some (c : Int) : ∃ v, kind_Pure.f c = some v := by
  unfold kind_Pure.f
  by_cases h4 : c = 4
  · exact ⟨_, by rw [if_pos h4]⟩
  by_cases h16 : c = 16
  · exact ⟨_, by rw [if_neg h4, if_pos h16]⟩
  by_cases h17 : c = 17
  · exact ⟨_, by rw [if_neg h4, if_neg h16, if_pos h17]⟩
  by_cases h18 : c = 18
  · exact ⟨_, by rw [if_neg h4, if_neg h16, if_neg h17, if_pos h18]⟩
  by_cases h19 : c = 19
  · exact ⟨_, by rw [if_neg h4, if_neg h16, if_neg h17, if_neg h18, if_pos h19]⟩
  by_cases h20 : c = 20
  · exact ⟨_, by rw [if_neg h4, if_neg h16, if_neg h17, if_neg h18, if_neg h19, if_pos h20]⟩
  rw [if_neg h4, if_neg h16, if_neg h17, if_neg h18, if_neg h19, if_neg h20]
  by_cases h0 : c ≥ 0
  · exact ⟨_, by rw [if_pos h0]⟩
  · exact ⟨_, by rw [if_neg h0]⟩
theorem kindLooks : locksteplaw03_KindLooks.Pure := by
  intro c b n d l i _ _ _ _ hi hb _
  have hi' : 0 ≤ i ∧ i < 18446744073709551616 := by
    simp [Lit.wf, IntKind.min, IntKind.max, IntKind.signed, IntKind.bits] at hi; omega
  apply Ev.at
  unfold locksteplaw03_KindLooks.f
  refine Ev.bind awake_ev (Ev.ifp rfl ?_)
  by_cases h100 : (l.length : Int) > 100
  · exact Ev.ifp h100 Ev.pure
  refine Ev.ifn h100 ?_
  refine Ev.bind (gives_ok c b n d l i hb) (Ev.bind (rgives_ok c b n d l i hb hi'.1 hi'.2) ?_)
  refine Ev.bind (may_ok c b n d l i hb) (Ev.bind (rmay_ok c b n d l i hb hi'.1 hi'.2) (Ev.ifp (by simp) ?_))
  refine Ev.bind (takes2_ok c b n d l i hb) (Ev.bind (rtakes_ok c b n d l i (by omega) hi'.1 hi'.2) ?_)
  have hlen : (if mayv c b n d l i then (tk c b n i).1 else []).length < 9223372036854775807 := by
    cases hm : mayv c b n d l i with
    | false => simp
    | true =>
      unfold mayv at hm
      simp only [Bool.and_eq_true, decide_eq_true_eq] at hm
      have := hm.2.2.2.1
      simp only [if_true]; omega
  refine Ev.bind (shapes_ok _ hlen) (Ev.ifp rfl (Ev.ifp rfl (Ev.ifp rfl ?_)))
  obtain ⟨v, hv⟩ := kpure_some c
  simp only [shape_ok, rshape_ok, rpure_ok, hv, Option.bind_some]
  exact Ev.ifp (by simp) (Ev.pure.of_eq (by simp))
end Go.Proofs.Ytblhphjdjpodcaa.KP
namespace Go.Proofs.Ytblhphjdjpodcaa.Pure
theorem KindLooks : Go.Proofs.Ytblhphjdjpodcaa.Q.locksteplaw03_KindLooks.Pure := KP.kindLooks
end Go.Proofs.Ytblhphjdjpodcaa.Pure
namespace Go.Proofs.Ytblhphjdjpodcaa.kindLooks
open Go.Proofs.YtblhphjdjpodcaaH Go.Proofs.Ytblhphjdjpodcaa.Q
open Go.ChangeShapes Go.WideShapes Go.ChangeAt Go.RowKit
open Go.ChangeMaps (open_string shut_string)
set_option linter.unusedVariables false
theorem own : ownKnob Try.prog.godebug = none := by kernel_rfl
theorem laidOut : laidOutB Try.prog = true := by kernel_rfl
def IsRow (k : IntKind) (w : World) (a : Option Addr) (len cap : Nat) (zs : List Int) : Prop :=
  (a = none ∧ len = 0 ∧ cap = 0 ∧ zs = []) ∨
  ∃ x, a = some x ∧ len ≤ cap ∧ cap ≤ maxLen ∧ zs.length = cap ∧ (∀ i, i < zs.length → w.cell? (x.add i) = some (.int k (zs.getD i 0))) ∧ ∀ n ∈ zs, (Lit.int k n).wf = true
set_option maxRecDepth 100000 in
theorem lifted (os : Os) (started : os.Started) (H : Type) (enc : TypeId × Value → H) :
    ReturnsInHanded {} Try.checked os 5 .any (Rows.kindLooksSpec.pre6 enc Try.prog Try.f5 Rows.kindLooksRow.domain false) (Rows.kindLooksSpec.post enc Try.prog Try.f5 false true false false) := by
  refine returnsInHanded_of_change_sized (C := Try.checked) own started (by kernel_rfl) Try.func5
    (ChangeSpec.witness6 (enc := enc) (C := Try.checked) false ⟨#[], #[.agg #[.int .i64 0, .int .i64 0, .int .i64 0, .int .i64 0, .slice none 0 0, .int .u64 0]], []⟩ 8 (by kernel_rfl) (by kernel_rfl) (by kernel_rfl) (by kernel_rfl)) ?_
  intro W base args ds gs before hval0 hW hcnd hsz0 _
  have hsz : (DataW.weightsEach Try.prog (Try.f5.params.toList ++ Rows.kindLooksSpec.plain.varTypes Try.prog) (ds ++ gs)).all (· ≤ reachBytes) = true := hsz0
  have hval : ∀ (j : Nat) t v, Try.f5.params[j]? = some t → args[j]? = some v → Value.okWide Try.prog W .any base t v := hval0
  have hW' := hW
  obtain ⟨p, q, hA0, hV, rfl, hfz, hnd⟩ := hW
  have hA : DataW.TrodAll enc Try.prog W 0 (fun _ => true) true Try.f5.params.toList args.toList ds p := hA0
  rw [Try.params5] at hA hval hsz
  obtain ⟨v0, vs0, d0, ds0, p0, q0, hargs, rfl, rfl, h0, r0⟩ := trodAll_cons hA
  obtain ⟨rfl, rfl, rfl⟩ := trodAll_nil r0
  obtain rfl : args = #[v0] := by cases args; simp_all
  obtain ⟨rfl, rfl⟩ := trodVars_none hV
  have k0 := h0
  have lt0 : ∀ x ∈ p0, x.block < W.heap.size := by obtain ⟨m, hm⟩ := k0; exact DataW.trod_lt m _ _ _ hm
  obtain ⟨a0_0, a0_1, a0_2, a0_3, A0_4, c0_4, l0_4, a0_5, rfl, w0_0, w0_1, w0_2, w0_3, w0_5, w0_4, y0_4, m0_4, n0_4⟩ := open_op Try.underlying27 (by kernel_rfl) (by kernel_rfl) Try.underlying3 Try.underlying3 Try.underlying3 Try.underlying3 Try.underlying24 Try.underlying3 (by kernel_rfl) Try.underlying25 (hval 0 27 v0 rfl rfl) h0
  clear hA0 hval0 hsz0 hsz
  refine (Q.locksteplaw03_KindLooks.walk Pure.KindLooks a0_0 a0_1 a0_2 a0_3 A0_4 c0_4 l0_4 a0_5 W w0_0 w0_1 w0_2 w0_3 w0_5 w0_4 y0_4 m0_4 n0_4).mono fun e W' ⟨he, bel⟩ => ?_
  subst he
  exact ⟨_, rfl, _, _, _, [], _, [], hW', trodAll_mk1 (shut_bool Try.underlying4 _), (trodAll_cons_mk (Below.trod laidOut (by kernel_rfl) (of_decide_eq_true (by kernel_rfl)) k0 bel lt0) trodAll_mk0), rfl, bel.frame _, fun h => by cases h⟩
theorem over : Rows.kindLooksRow.holds Try.pinned (OpenSpec.ofChange Rows.kindLooksSpec) :=
  OpenClaim.holds_of_wide 5 Try.f5 rfl rfl rfl rfl rfl rfl rfl ⟨rfl, rfl, rfl, rfl, rfl⟩ rfl rfl rfl rfl rfl (by kernel_rfl) Try.func5 (by kernel_rfl)
    (of_decide_eq_true (by kernel_rfl)) (by unfold Func.isWrapper; first | (rw [if_pos (by decide +kernel)]; kernel_rfl) | (rw [if_neg (by decide +kernel)]; exact ⟨rfl, rfl⟩))
    (fun os started H enc _ => lifted os started H enc)
theorem proved : Rows.KindLooksSaid := over
#print axioms proved
end Go.Proofs.Ytblhphjdjpodcaa.kindLooks
namespace Go.Proofs.Ytblhphjdjpodcaa
/-- The row, under a short name, for the claim. -/
theorem kindLooks_holds : Rows.KindLooksSaid := kindLooks.proved
end Go.Proofs.Ytblhphjdjpodcaa
