/- Texts of this session, joined by wip/tools/merge.py. Conditions: each theorem's own. -/
import Derived.Test.YtoekeknfeinphaaGx0
import Derived.Test.YtoekeknfeinphaaGx6
import Derived.Test.YtoekeknfeinphaaGx11
import Derived.Test.YtoekeknfeinphaaGx22
import Derived.Test.YtoekeknfeinphaaGx24
import Derived.Test.YtoekeknfeinphaaMLoopSelfc
import Derived.Test.YtoekeknfeinphaaGx9
import Derived.Test.YtoekeknfeinphaaGx15
import Derived.Test.YtoekeknfeinphaaGx14
import Derived.Test.YtoekeknfeinphaaGx19
import Derived.Test.YtoekeknfeinphaaGx16
import Derived.Test.YtoekeknfeinphaaGx17
import Derived.Test.YtoekeknfeinphaaGx20
import Derived.Test.YtoekeknfeinphaaGx21
namespace Go.Proofs.Ytoekeknfeinphaa.G
open Go.Proofs.YtoekeknfeinphaaH
open Go.RowKit Go.Proofs.YtoekeknfeinphaaW.PrintWords Go.Proofs.YtoekeknfeinphaaW.PrintLast Go.Proofs.YtoekeknfeinphaaW.PrintMore
attribute [local go_sem] max2_int min2_int max_two min_two max_three min_three max_four min_four   -- for this text's walks alone
set_option linter.unusedVariables false
set_option linter.unusedSimpArgs false

/-! ### locksteplaw10_LoopSelf: function 7 -/
mutual
def locksteplaw10_LoopSelf.l0 : Nat → List (List Int) → Int → Option (Bool)
 | 0, _, _ => none
 | k + 1, x0, x3 => if x3 < (x0.length : Int) then (if 0 ≤ x3 then (if ((rd_L1 x0 x3).length : Int) > 100 then (some true) else (locksteplaw10_LoopSelf.l0 k x0 (wrap64 (x3 + 1)))) else (none)) else ((graph_Make.f k x0).bind fun bt634 => (if bt634.2.2 = 0 then ((loop_All.f k bt634.1 bt634.2.1).bind fun t642 => ((loop_Backs.f k bt634.1 bt634.2.1).bind fun t645 => (locksteplaw10_LoopSelf.l1 k x0 t642 t645 0 bt634.1 bt634.2.1))) else (some true)))
def locksteplaw10_LoopSelf.l1 : Nat → List (List Int) → List (S43) → List (S48) → Int → List (List Int) → List (List Int) → Option (Bool)
 | 0, _, _, _, _, _, _ => none
 | k + 1, x0, x6, x7, x8, x642000, x642001 => if x8 < (x7.length : Int) then (locksteplaw10_LoopSelf.l2 k x0 x6 x7 x8 false 0 x642000 x642001) else ((graph_Order.f k x642000 x642001 0).bind fun t654 => (locksteplaw10_LoopSelf.l4 k x0 t654 0 x642000 x642001))
def locksteplaw10_LoopSelf.l2 : Nat → List (List Int) → List (S43) → List (S48) → Int → Bool → Int → List (List Int) → List (List Int) → Option (Bool)
 | 0, _, _, _, _, _, _, _, _ => none
 | k + 1, x0, x6, x7, x8, x9, x10, x642000, x642001 => if x10 < (x6.length : Int) then (locksteplaw10_LoopSelf.l3 k x0 x6 x7 x8 x9 x10 false 0 x642000 x642001) else (if x9 = true then (locksteplaw10_LoopSelf.l1 k x0 x6 x7 (wrap64 (x8 + 1)) x642000 x642001) else (some false))
def locksteplaw10_LoopSelf.l3 : Nat → List (List Int) → List (S43) → List (S48) → Int → Bool → Int → Bool → Int → List (List Int) → List (List Int) → Option (Bool)
 | 0, _, _, _, _, _, _, _, _, _, _ => none
 | k + 1, x0, x6, x7, x8, x9, x10, x11, x12, x642000, x642001 => if 0 ≤ x10 then (if x10 < (x6.length : Int) then (if x12 < (((rd_T43 x6 x10).f1).length : Int) then (if x11 = true then (locksteplaw10_LoopSelf.l3 k x0 x6 x7 x8 x9 x10 true (wrap64 (x12 + 1)) x642000 x642001) else (if 0 ≤ x12 then (if 0 ≤ x8 then (if x8 < (x7.length : Int) then (locksteplaw10_LoopSelf.l3 k x0 x6 x7 x8 x9 x10 ((rd ((rd_T43 x6 x10).f1) x12) == ((rd_T48 x7 x8).f0)) (wrap64 (x12 + 1)) x642000 x642001) else (none)) else (none)) else (none))) else (if x9 = true then (locksteplaw10_LoopSelf.l2 k x0 x6 x7 x8 true (wrap64 (x10 + 1)) x642000 x642001) else (if 0 ≤ x8 then (if x8 < (x7.length : Int) then (if ((rd_T43 x6 x10).f0) = ((rd_T48 x7 x8).f1) then (locksteplaw10_LoopSelf.l2 k x0 x6 x7 x8 x11 (wrap64 (x10 + 1)) x642000 x642001) else (locksteplaw10_LoopSelf.l2 k x0 x6 x7 x8 false (wrap64 (x10 + 1)) x642000 x642001)) else (none)) else (none)))) else (none)) else (none)
def locksteplaw10_LoopSelf.l4 : Nat → List (List Int) → List Int → Int → List (List Int) → List (List Int) → Option (Bool)
 | 0, _, _, _, _, _ => none
 | k + 1, x0, x13, x14, x642000, x642001 => if x14 < (x13.length : Int) then (if 0 ≤ x14 then (locksteplaw10_LoopSelf.l5 k x0 x13 x14 (rd x13 x14) 0 x642000 x642001) else (none)) else (some true)
def locksteplaw10_LoopSelf.l5 : Nat → List (List Int) → List Int → Int → Int → Int → List (List Int) → List (List Int) → Option (Bool)
 | 0, _, _, _, _, _, _, _ => none
 | k + 1, x0, x13, x14, x15, x16, x642000, x642001 => if 0 ≤ x15 then (if x15 < (x0.length : Int) then (if x16 < ((rd_L1 x0 x15).length : Int) then (if 0 ≤ x16 then (if (rd (rd_L1 x0 x15) x16) = x15 then ((loop_Depth.f k x642000 x642001 x15).bind fun t661 => (if t661 < 1 then (some false) else (locksteplaw10_LoopSelf.l5 k x0 x13 x14 x15 (wrap64 (x16 + 1)) x642000 x642001))) else (locksteplaw10_LoopSelf.l5 k x0 x13 x14 x15 (wrap64 (x16 + 1)) x642000 x642001)) else (none)) else (locksteplaw10_LoopSelf.l4 k x0 x13 (wrap64 (x14 + 1)) x642000 x642001)) else (none)) else (none)
end
def locksteplaw10_LoopSelf.f (k : Nat) (l0 : List (List Int)) : Option (Bool) := (locksteplaw10_awake.f k).bind fun t632 => (if t632 = true then (if (l0.length : Int) > 16 then (some true) else (locksteplaw10_LoopSelf.l0 k l0 0)) else (some false))
theorem locksteplaw10_LoopSelf.mono_l : ∀ k, (∀ y0 y1, LeO (locksteplaw10_LoopSelf.l0 k y0 y1) (locksteplaw10_LoopSelf.l0 (k + 1) y0 y1)) ∧ (∀ y0 y1 y2 y3 y4 y5, LeO (locksteplaw10_LoopSelf.l1 k y0 y1 y2 y3 y4 y5) (locksteplaw10_LoopSelf.l1 (k + 1) y0 y1 y2 y3 y4 y5)) ∧ (∀ y0 y1 y2 y3 y4 y5 y6 y7, LeO (locksteplaw10_LoopSelf.l2 k y0 y1 y2 y3 y4 y5 y6 y7) (locksteplaw10_LoopSelf.l2 (k + 1) y0 y1 y2 y3 y4 y5 y6 y7)) ∧ (∀ y0 y1 y2 y3 y4 y5 y6 y7 y8 y9, LeO (locksteplaw10_LoopSelf.l3 k y0 y1 y2 y3 y4 y5 y6 y7 y8 y9) (locksteplaw10_LoopSelf.l3 (k + 1) y0 y1 y2 y3 y4 y5 y6 y7 y8 y9)) ∧ (∀ y0 y1 y2 y3 y4, LeO (locksteplaw10_LoopSelf.l4 k y0 y1 y2 y3 y4) (locksteplaw10_LoopSelf.l4 (k + 1) y0 y1 y2 y3 y4)) ∧ (∀ y0 y1 y2 y3 y4 y5 y6, LeO (locksteplaw10_LoopSelf.l5 k y0 y1 y2 y3 y4 y5 y6) (locksteplaw10_LoopSelf.l5 (k + 1) y0 y1 y2 y3 y4 y5 y6))
 | 0 => ⟨fun _ _ r h => by simp [locksteplaw10_LoopSelf.l0] at h, fun _ _ _ _ _ _ r h => by simp [locksteplaw10_LoopSelf.l1] at h, fun _ _ _ _ _ _ _ _ r h => by simp [locksteplaw10_LoopSelf.l2] at h, fun _ _ _ _ _ _ _ _ _ _ r h => by simp [locksteplaw10_LoopSelf.l3] at h, fun _ _ _ _ _ r h => by simp [locksteplaw10_LoopSelf.l4] at h, fun _ _ _ _ _ _ _ r h => by simp [locksteplaw10_LoopSelf.l5] at h⟩
 | k + 1 => by
  obtain ⟨ih0, ih1, ih2, ih3, ih4, ih5⟩ := locksteplaw10_LoopSelf.mono_l k
  refine ⟨?_, ?_, ?_, ?_, ?_, ?_⟩
  ·intro y0 y1
   unfold locksteplaw10_LoopSelf.l0
   repeat' first
   | (with_reducible exact ih0 _ _)
   | (with_reducible exact ih1 _ _ _ _ _ _)
   | (with_reducible exact ih2 _ _ _ _ _ _ _ _)
   | (with_reducible exact ih3 _ _ _ _ _ _ _ _ _ _)
   | (with_reducible exact ih4 _ _ _ _ _)
   | (with_reducible exact ih5 _ _ _ _ _ _ _)
   | (with_reducible exact graph_Make.mono _ _)
   | (with_reducible exact graph_Order.mono _ _ _ _)
   | (with_reducible exact locksteplaw10_awake.mono _)
   | (with_reducible exact loop_All.mono _ _ _)
   | (with_reducible exact loop_Backs.mono _ _ _)
   | (with_reducible exact loop_Depth.mono _ _ _ _)
   | (with_reducible exact LeO.refl _)
   | (with_reducible exact LeO.none _)
   | (with_reducible refine LeO.ite ?_ ?_)
   | (with_reducible refine LeO.bind ?_ (fun _ => ?_))
   | exact ih0 _ _
   | exact ih1 _ _ _ _ _ _
   | exact ih2 _ _ _ _ _ _ _ _
   | exact ih3 _ _ _ _ _ _ _ _ _ _
   | exact ih4 _ _ _ _ _
   | exact ih5 _ _ _ _ _ _ _
   | exact graph_Make.mono _ _
   | exact graph_Order.mono _ _ _ _
   | exact locksteplaw10_awake.mono _
   | exact loop_All.mono _ _ _
   | exact loop_Backs.mono _ _ _
   | exact loop_Depth.mono _ _ _ _
   | exact LeO.none _
   | refine LeO.ite ?_ ?_
   | refine LeO.bind ?_ (fun _ => ?_)
  ·intro y0 y1 y2 y3 y4 y5
   unfold locksteplaw10_LoopSelf.l1
   repeat' first
   | (with_reducible exact ih0 _ _)
   | (with_reducible exact ih1 _ _ _ _ _ _)
   | (with_reducible exact ih2 _ _ _ _ _ _ _ _)
   | (with_reducible exact ih3 _ _ _ _ _ _ _ _ _ _)
   | (with_reducible exact ih4 _ _ _ _ _)
   | (with_reducible exact ih5 _ _ _ _ _ _ _)
   | (with_reducible exact graph_Make.mono _ _)
   | (with_reducible exact graph_Order.mono _ _ _ _)
   | (with_reducible exact locksteplaw10_awake.mono _)
   | (with_reducible exact loop_All.mono _ _ _)
   | (with_reducible exact loop_Backs.mono _ _ _)
   | (with_reducible exact loop_Depth.mono _ _ _ _)
   | (with_reducible exact LeO.refl _)
   | (with_reducible exact LeO.none _)
   | (with_reducible refine LeO.ite ?_ ?_)
   | (with_reducible refine LeO.bind ?_ (fun _ => ?_))
   | exact ih0 _ _
   | exact ih1 _ _ _ _ _ _
   | exact ih2 _ _ _ _ _ _ _ _
   | exact ih3 _ _ _ _ _ _ _ _ _ _
   | exact ih4 _ _ _ _ _
   | exact ih5 _ _ _ _ _ _ _
   | exact graph_Make.mono _ _
   | exact graph_Order.mono _ _ _ _
   | exact locksteplaw10_awake.mono _
   | exact loop_All.mono _ _ _
   | exact loop_Backs.mono _ _ _
   | exact loop_Depth.mono _ _ _ _
   | exact LeO.none _
   | refine LeO.ite ?_ ?_
   | refine LeO.bind ?_ (fun _ => ?_)
  ·intro y0 y1 y2 y3 y4 y5 y6 y7
   unfold locksteplaw10_LoopSelf.l2
   repeat' first
   | (with_reducible exact ih0 _ _)
   | (with_reducible exact ih1 _ _ _ _ _ _)
   | (with_reducible exact ih2 _ _ _ _ _ _ _ _)
   | (with_reducible exact ih3 _ _ _ _ _ _ _ _ _ _)
   | (with_reducible exact ih4 _ _ _ _ _)
   | (with_reducible exact ih5 _ _ _ _ _ _ _)
   | (with_reducible exact graph_Make.mono _ _)
   | (with_reducible exact graph_Order.mono _ _ _ _)
   | (with_reducible exact locksteplaw10_awake.mono _)
   | (with_reducible exact loop_All.mono _ _ _)
   | (with_reducible exact loop_Backs.mono _ _ _)
   | (with_reducible exact loop_Depth.mono _ _ _ _)
   | (with_reducible exact LeO.refl _)
   | (with_reducible exact LeO.none _)
   | (with_reducible refine LeO.ite ?_ ?_)
   | (with_reducible refine LeO.bind ?_ (fun _ => ?_))
   | exact ih0 _ _
   | exact ih1 _ _ _ _ _ _
   | exact ih2 _ _ _ _ _ _ _ _
   | exact ih3 _ _ _ _ _ _ _ _ _ _
   | exact ih4 _ _ _ _ _
   | exact ih5 _ _ _ _ _ _ _
   | exact graph_Make.mono _ _
   | exact graph_Order.mono _ _ _ _
   | exact locksteplaw10_awake.mono _
   | exact loop_All.mono _ _ _
   | exact loop_Backs.mono _ _ _
   | exact loop_Depth.mono _ _ _ _
   | exact LeO.none _
   | refine LeO.ite ?_ ?_
   | refine LeO.bind ?_ (fun _ => ?_)
  ·intro y0 y1 y2 y3 y4 y5 y6 y7 y8 y9
   unfold locksteplaw10_LoopSelf.l3
   repeat' first
   | (with_reducible exact ih0 _ _)
   | (with_reducible exact ih1 _ _ _ _ _ _)
   | (with_reducible exact ih2 _ _ _ _ _ _ _ _)
   | (with_reducible exact ih3 _ _ _ _ _ _ _ _ _ _)
   | (with_reducible exact ih4 _ _ _ _ _)
   | (with_reducible exact ih5 _ _ _ _ _ _ _)
   | (with_reducible exact graph_Make.mono _ _)
   | (with_reducible exact graph_Order.mono _ _ _ _)
   | (with_reducible exact locksteplaw10_awake.mono _)
   | (with_reducible exact loop_All.mono _ _ _)
   | (with_reducible exact loop_Backs.mono _ _ _)
   | (with_reducible exact loop_Depth.mono _ _ _ _)
   | (with_reducible exact LeO.refl _)
   | (with_reducible exact LeO.none _)
   | (with_reducible refine LeO.ite ?_ ?_)
   | (with_reducible refine LeO.bind ?_ (fun _ => ?_))
   | exact ih0 _ _
   | exact ih1 _ _ _ _ _ _
   | exact ih2 _ _ _ _ _ _ _ _
   | exact ih3 _ _ _ _ _ _ _ _ _ _
   | exact ih4 _ _ _ _ _
   | exact ih5 _ _ _ _ _ _ _
   | exact graph_Make.mono _ _
   | exact graph_Order.mono _ _ _ _
   | exact locksteplaw10_awake.mono _
   | exact loop_All.mono _ _ _
   | exact loop_Backs.mono _ _ _
   | exact loop_Depth.mono _ _ _ _
   | exact LeO.none _
   | refine LeO.ite ?_ ?_
   | refine LeO.bind ?_ (fun _ => ?_)
  ·intro y0 y1 y2 y3 y4
   unfold locksteplaw10_LoopSelf.l4
   repeat' first
   | (with_reducible exact ih0 _ _)
   | (with_reducible exact ih1 _ _ _ _ _ _)
   | (with_reducible exact ih2 _ _ _ _ _ _ _ _)
   | (with_reducible exact ih3 _ _ _ _ _ _ _ _ _ _)
   | (with_reducible exact ih4 _ _ _ _ _)
   | (with_reducible exact ih5 _ _ _ _ _ _ _)
   | (with_reducible exact graph_Make.mono _ _)
   | (with_reducible exact graph_Order.mono _ _ _ _)
   | (with_reducible exact locksteplaw10_awake.mono _)
   | (with_reducible exact loop_All.mono _ _ _)
   | (with_reducible exact loop_Backs.mono _ _ _)
   | (with_reducible exact loop_Depth.mono _ _ _ _)
   | (with_reducible exact LeO.refl _)
   | (with_reducible exact LeO.none _)
   | (with_reducible refine LeO.ite ?_ ?_)
   | (with_reducible refine LeO.bind ?_ (fun _ => ?_))
   | exact ih0 _ _
   | exact ih1 _ _ _ _ _ _
   | exact ih2 _ _ _ _ _ _ _ _
   | exact ih3 _ _ _ _ _ _ _ _ _ _
   | exact ih4 _ _ _ _ _
   | exact ih5 _ _ _ _ _ _ _
   | exact graph_Make.mono _ _
   | exact graph_Order.mono _ _ _ _
   | exact locksteplaw10_awake.mono _
   | exact loop_All.mono _ _ _
   | exact loop_Backs.mono _ _ _
   | exact loop_Depth.mono _ _ _ _
   | exact LeO.none _
   | refine LeO.ite ?_ ?_
   | refine LeO.bind ?_ (fun _ => ?_)
  ·intro y0 y1 y2 y3 y4 y5 y6
   unfold locksteplaw10_LoopSelf.l5
   repeat' first
   | (with_reducible exact ih0 _ _)
   | (with_reducible exact ih1 _ _ _ _ _ _)
   | (with_reducible exact ih2 _ _ _ _ _ _ _ _)
   | (with_reducible exact ih3 _ _ _ _ _ _ _ _ _ _)
   | (with_reducible exact ih4 _ _ _ _ _)
   | (with_reducible exact ih5 _ _ _ _ _ _ _)
   | (with_reducible exact graph_Make.mono _ _)
   | (with_reducible exact graph_Order.mono _ _ _ _)
   | (with_reducible exact locksteplaw10_awake.mono _)
   | (with_reducible exact loop_All.mono _ _ _)
   | (with_reducible exact loop_Backs.mono _ _ _)
   | (with_reducible exact loop_Depth.mono _ _ _ _)
   | (with_reducible exact LeO.refl _)
   | (with_reducible exact LeO.none _)
   | (with_reducible refine LeO.ite ?_ ?_)
   | (with_reducible refine LeO.bind ?_ (fun _ => ?_))
   | exact ih0 _ _
   | exact ih1 _ _ _ _ _ _
   | exact ih2 _ _ _ _ _ _ _ _
   | exact ih3 _ _ _ _ _ _ _ _ _ _
   | exact ih4 _ _ _ _ _
   | exact ih5 _ _ _ _ _ _ _
   | exact graph_Make.mono _ _
   | exact graph_Order.mono _ _ _ _
   | exact locksteplaw10_awake.mono _
   | exact loop_All.mono _ _ _
   | exact loop_Backs.mono _ _ _
   | exact loop_Depth.mono _ _ _ _
   | exact LeO.none _
   | refine LeO.ite ?_ ?_
   | refine LeO.bind ?_ (fun _ => ?_)
theorem locksteplaw10_LoopSelf.mono : ∀ a0 k, LeO (locksteplaw10_LoopSelf.f k a0) (locksteplaw10_LoopSelf.f (k + 1) a0) := by
 intro a0 k
 obtain ⟨ih0, ih1, ih2, ih3, ih4, ih5⟩ := locksteplaw10_LoopSelf.mono_l k
 unfold locksteplaw10_LoopSelf.f
 repeat' first
  | (with_reducible exact ih0 _ _)
  | (with_reducible exact ih1 _ _ _ _ _ _)
  | (with_reducible exact ih2 _ _ _ _ _ _ _ _)
  | (with_reducible exact ih3 _ _ _ _ _ _ _ _ _ _)
  | (with_reducible exact ih4 _ _ _ _ _)
  | (with_reducible exact ih5 _ _ _ _ _ _ _)
  | (with_reducible exact graph_Make.mono _ _)
  | (with_reducible exact graph_Order.mono _ _ _ _)
  | (with_reducible exact locksteplaw10_awake.mono _)
  | (with_reducible exact loop_All.mono _ _ _)
  | (with_reducible exact loop_Backs.mono _ _ _)
  | (with_reducible exact loop_Depth.mono _ _ _ _)
  | (with_reducible exact LeO.refl _)
  | (with_reducible exact LeO.none _)
  | (with_reducible refine LeO.ite ?_ ?_)
  | (with_reducible refine LeO.bind ?_ (fun _ => ?_))
  | exact ih0 _ _
  | exact ih1 _ _ _ _ _ _
  | exact ih2 _ _ _ _ _ _ _ _
  | exact ih3 _ _ _ _ _ _ _ _ _ _
  | exact ih4 _ _ _ _ _
  | exact ih5 _ _ _ _ _ _ _
  | exact graph_Make.mono _ _
  | exact graph_Order.mono _ _ _ _
  | exact locksteplaw10_awake.mono _
  | exact loop_All.mono _ _ _
  | exact loop_Backs.mono _ _ _
  | exact loop_Depth.mono _ _ _ _
  | exact LeO.none _
  | refine LeO.ite ?_ ?_
  | refine LeO.bind ?_ (fun _ => ?_)
set_option maxHeartbeats 8000000 in
set_option maxRecDepth 100000 in
theorem locksteplaw10_LoopSelf.calls (k : Nat) (A0 : Option Addr) (c0 : Nat) (l0 : List (List Int)) (w : World) (hr0 : Kd.C (Kd.slice 3 (Kd.int .i64)) w A0 l0.length l0) (hc0 : l0.length ≤ c0) (h : locksteplaw10_LoopSelf.f k l0 = some true) :
 Calls Try.prog 7 #[.slice A0 l0.length c0] w fun e w' => e = .returned (.bool true) ∧ Below w.heap.size w w' := by
 have hu26 := Try.underlying26
 have HR0 := Aside0.mk hr0
 have HC0 := Aside0.mk hc0
 clear hr0 hc0
 have HB := Aside0.mk (Below.refl w.heap.size w)
 have H : ((locksteplaw10_awake.f k).bind fun t632 => (if t632 = true then (if (l0.length : Int) > 16 then (some true) else (locksteplaw10_LoopSelf.l0 k l0 0)) else (some false))) = some true := h
 clear h
 replace H := Option.bind_eq_some_iff.mp H
 obtain ⟨t632, A20, H⟩ := H
 replace H : (if t632 = true then (if (l0.length : Int) > 16 then (some true) else (locksteplaw10_LoopSelf.l0 k l0 0)) else (some false)) = some true := H
 have A2 := Aside0.mk A20
 clear A20
 by_cases c3 : t632 = true
 ·subst c3
  have H1 : (if (l0.length : Int) > 16 then (some true) else (locksteplaw10_LoopSelf.l0 k l0 0)) = some true := by rw [if_pos rfl] at H; exact H
  clear H
  have H := H1
  clear H1
  by_cases c4 : (l0.length : Int) > 16
  ·rw [if_pos c4] at H
   have c4b0 : decide (16 < (l0.length : Int)) = true := decide_eq_true c4
   have c4b1 : decide (16 < l0.length) = true := decide_eq_true (by omega)
   clear c4
   clear H
   go_enter Try.func7, Try.ntmps7
   go_wp2_with (first | (go_at_call 16; (with_reducible refine (locksteplaw10_awake.calls k   _ A2.out).mono ?_); rintro e w5 ⟨rfl, hb⟩; have n0_ := Aside0.mk (below_step (B_) hb); clear HB; have HB := n0_; clear n0_; (try clear hb); (try clear hb2); (try clear hk); (try clear hi)))
   repeat (go_quiet (first | (go_at_call 16; (with_reducible refine (locksteplaw10_awake.calls k   _ A2.out).mono ?_); rintro e w5 ⟨rfl, hb⟩; have n0_ := Aside0.mk (below_step (B_) hb); clear HB; have HB := n0_; clear n0_; (try clear hb); (try clear hb2); (try clear hk); (try clear hi))); try go_wp2_with (first | (go_at_call 16; (with_reducible refine (locksteplaw10_awake.calls k   _ A2.out).mono ?_); rintro e w5 ⟨rfl, hb⟩; have n0_ := Aside0.mk (below_step (B_) hb); clear HB; have HB := n0_; clear n0_; (try clear hb); (try clear hb2); (try clear hk); (try clear hi))))
   go_ret
   exact ⟨by first | rfl | exact congrArg (fun b => Ending.returned (Value.bool b)) HR_.out | (simp [errW_none, errW_some] <;> rfl) | (simp [*, errW_none, errW_some] <;> rfl), B_⟩
  rw [if_neg c4] at H
  have c4b0 : decide (16 < (l0.length : Int)) = false := decide_eq_false c4
  have c4b1 : decide (16 < l0.length) = false := decide_eq_false (by omega)
  clear c4
  have H' := Aside0.mk H
  clear H
  go_enter Try.func7, Try.ntmps7
  go_wp2_with (first | (go_at_call 16; (with_reducible refine (locksteplaw10_awake.calls k   _ A2.out).mono ?_); rintro e w6 ⟨rfl, hb⟩; have n0_ := Aside0.mk (below_step (B_) hb); clear HB; have HB := n0_; clear n0_; (try clear hb); (try clear hb2); (try clear hk); (try clear hi)))
  repeat (go_quiet (first | (go_at_call 16; (with_reducible refine (locksteplaw10_awake.calls k   _ A2.out).mono ?_); rintro e w6 ⟨rfl, hb⟩; have n0_ := Aside0.mk (below_step (B_) hb); clear HB; have HB := n0_; clear n0_; (try clear hb); (try clear hb2); (try clear hk); (try clear hi))); try go_wp2_with (first | (go_at_call 16; (with_reducible refine (locksteplaw10_awake.calls k   _ A2.out).mono ?_); rintro e w6 ⟨rfl, hb⟩; have n0_ := Aside0.mk (below_step (B_) hb); clear HB; have HB := n0_; clear n0_; (try clear hb); (try clear hb2); (try clear hk); (try clear hi))))
  go_loopg [3] k (fun kq v3 w' => ∃ (x3_1 : Int), v3 = .int .i64 x3_1 ∧ Aside0 (locksteplaw10_LoopSelf.l0 kq l0 x3_1 = some true) ∧ Aside0 (kq ≤ k) ∧ Aside0 (Below w.heap.size w w'))
  case atStart => exact ⟨(0), (by first | rfl | exact congrArg (fun b => Ending.returned (Value.bool b)) HR_.out | (simp; done) | (simp [*]; done)), H', ⟨Nat.le_refl _⟩, ⟨B_⟩⟩
  case round =>
   clear H'
   try clear c3
   try clear c4b0
   try clear c4b1
   obtain ⟨x3_1, rfl, HA, HK1, HB⟩ := hrel
   cases gk with
   | zero => exact absurd HA.out (by simp [locksteplaw10_LoopSelf.l0])
   | succ k1 =>
    have H := HA.out
    clear HA
    simp only [locksteplaw10_LoopSelf.l0] at H
    by_cases c7 : x3_1 < (l0.length : Int)
    ·rw [if_pos c7] at H
     have c7b0 : decide (x3_1 < (l0.length : Int)) = true := decide_eq_true c7
     clear c7
     by_cases c8 : 0 ≤ x3_1
     ·rw [if_pos c8] at H
      have c8b0 : decide (0 ≤ x3_1) = true := decide_eq_true c8
      clear c8
      by_cases c9 : ((rd_L1 l0 x3_1).length : Int) > 100
      ·rw [if_pos c9] at H
       have c9b0 : decide (100 < ((rd_L1 l0 x3_1).length : Int)) = true := decide_eq_true c9
       have c9b1 : decide (100 < (rd_L1 l0 x3_1).length) = true := decide_eq_true (by omega)
       clear c9
       clear H
       have p633 : 0 ≤ (x3_1 : Int) := D_
       have q633 : x3_1 < (l0.length : Int) := D_
       obtain ⟨ad633, A633_0, c633_0, e633, hx633_0, hl633_0, hi633_0⟩ := at_L1 HR0.out x3_1 p633 q633
       cases e633
       replace hx633_0 := (HB.out.cell (World.block_lt_of_cell? w _ hx633_0)).trans hx633_0
       have HR633_0 := Aside0.mk hi633_0
       have HC633_0 := Aside0.mk hl633_0
       clear hi633_0 hl633_0
       replace p633 := eq_true p633
       replace q633 := eq_true q633
       go_wp2
       repeat (go_quiet (fail); try go_wp2)
       go_ret
       exact ⟨by first | rfl | exact congrArg (fun b => Ending.returned (Value.bool b)) HR_.out | (simp [errW_none, errW_some] <;> rfl) | (simp [*, errW_none, errW_some] <;> rfl), B_⟩
      rw [if_neg c9] at H
      have c9b0 : decide (100 < ((rd_L1 l0 x3_1).length : Int)) = false := decide_eq_false c9
      have c9b1 : decide (100 < (rd_L1 l0 x3_1).length) = false := decide_eq_false (by omega)
      clear c9
      have H' := Aside0.mk H
      clear H
      have p633 : 0 ≤ (x3_1 : Int) := D_
      have q633 : x3_1 < (l0.length : Int) := D_
      obtain ⟨ad633, A633_0, c633_0, e633, hx633_0, hl633_0, hi633_0⟩ := at_L1 HR0.out x3_1 p633 q633
      cases e633
      replace hx633_0 := (HB.out.cell (World.block_lt_of_cell? w _ hx633_0)).trans hx633_0
      have HR633_0 := Aside0.mk hi633_0
      have HC633_0 := Aside0.mk hl633_0
      clear hi633_0 hl633_0
      replace p633 := eq_true p633
      replace q633 := eq_true q633
      go_wp2
      repeat (go_quiet (fail); try go_wp2)
      go_roundg k1
      case measure => have := HK1.out; omega
      case rel => exact ⟨(wrap64 (x3_1 + 1)), (by first | rfl | exact congrArg (fun b => Ending.returned (Value.bool b)) HR_.out | (simp; done) | (simp [*]; done)), H', ⟨by have := HK1.out; omega⟩, ⟨B_⟩⟩
     rw [if_neg c8] at H
     exact absurd H (by simp)
    rw [if_neg c7] at H
    have c7b0 : decide (x3_1 < (l0.length : Int)) = false := decide_eq_false c7
    clear c7
    replace H := Option.bind_eq_some_iff.mp H
    obtain ⟨⟨t634, t637, t640⟩, A100, H⟩ := H
    replace H : (if t640 = 0 then ((loop_All.f k1 t634 t637).bind fun t642 => ((loop_Backs.f k1 t634 t637).bind fun t645 => (locksteplaw10_LoopSelf.l1 k1 l0 t642 t645 0 t634 t637))) else (some true)) = some true := H
    have A10 := Aside0.mk A100
    clear A100
    by_cases c11 : t640 = 0
    ·rw [if_pos c11] at H
     have c11b0 : (t640 == 0) = true := beq_iff_eq.mpr c11
     have c11b1 : (t640 != 0) = false := bne_eq_false_iff_eq.mpr c11
     clear c11
     replace H := Option.bind_eq_some_iff.mp H
     obtain ⟨t642, A120, H⟩ := H
     replace H : ((loop_Backs.f k1 t634 t637).bind fun t645 => (locksteplaw10_LoopSelf.l1 k1 l0 t642 t645 0 t634 t637)) = some true := H
     have A12 := Aside0.mk A120
     clear A120
     replace H := Option.bind_eq_some_iff.mp H
     obtain ⟨t645, A130, H⟩ := H
     replace H : (locksteplaw10_LoopSelf.l1 k1 l0 t642 t645 0 t634 t637) = some true := H
     have A13 := Aside0.mk A130
     clear A130
     have H' := Aside0.mk H
     clear H
     go_wp2_with (first | (go_at_call 11; (with_reducible refine (graph_Make.calls k1 _ _ l0 t634 t637 t640 _ ?side1 ?side2 A10.out).mono ?_); (case side1 => exact CX_ (Kd.C_below HR0.out HB.out)); (case side2 => exact HC0.out); rintro e w14 ⟨v635, v638, rfl, ho0, ho1, hb⟩; have n0_ := Aside0.mk (Kd.S_lower ho0 (below_size (B_))); have n1_ := Aside0.mk (Kd.S_lower ho1 (below_size (B_))); have n2_ := Aside0.mk (below_step (B_) hb); clear HB; have HO636 := n0_; have HO639 := n1_; have HB := n2_; clear n0_ n1_ n2_; (try clear hb); (try clear hb2); (try clear hk); (try clear hi); (try clear ho0); (try clear ho1)) | ((with_reducible refine gate_dst (N := 4) rfl ?_); refine box_event ?hg (N := 4) ?hd (cs := #[.slice none 0 0, .slice none 0 0]) (t := 26) ?hr ?_; (case hd => rfl); (case hg => rfl); (case hr => first | (go_simp; done) | (go_simp; rfl)); intro gb641 hg w15 hbox hb; have n0_ := Aside0.mk (Kd.S_below (by exact SX_ HO636.out) hb); have n1_ := Aside0.mk (Kd.S_below (by exact SX_ HO639.out) hb); have n2_ := Aside0.mk (below_step (B_) hb); have n3_ := Aside0.mk (hbox); have n4_ := Aside0.mk ((by rw [hg]; exact (below_size (B_)) : w.heap.size ≤ gb641)); have n5_ := Aside0.mk ((by rw [hg]; exact (below_size (B_)) : w.heap.size ≤ gb641)); clear HO636; clear HO639; clear HB; have HO636 := n0_; have HO639 := n1_; have HB := n2_; have BK641 := n3_; have GW641 := n4_; have GE641 := n5_; clear n0_ n1_ n2_ n3_ n4_ n5_; clear hb hbox hg; obtain ⟨Ao16, co16, eo16⟩ := Kd.S_slice HO636.out; subst eo16; have hcz17_0 : w15.cell? ⟨gb641, 0, none⟩ = some (.slice none 0 0) := (blk_cell BK641.out 0).trans rfl; have hcz17_1 : w15.cell? ⟨gb641, 1, none⟩ = some (.slice none 0 0) := (blk_cell BK641.out 1).trans rfl; have hfz17_0 := blk_frozen BK641.out 0; have hfz17_1 := blk_frozen BK641.out 1; obtain ⟨Ao18, co18, eo18⟩ := Kd.S_slice HO639.out; subst eo18) | (go_at_call 18; (with_reducible refine (loop_All.calls k1 _ _ t634 _ _ t637 t642 _ ?side1 ?side2 ?side3 ?side4 A12.out).mono ?_); (case side1 => refine (Kd.S_reads' (e := 31) (base := w.heap.size) (ok := fun k_ => some k_ ≠ (.slice Ao18 t637.length co18 : Value).ownBlock) (n := t634.length) (c := co16) ?_).2.2; exact (by (with_reducible repeat (first | apply Kd.S_alloc | apply Kd.S_drewN | apply Kd.S_drew)); exact (Kd.S_mono (Kd.S_far (p := ⟨gb641, 1, none⟩) (Kd.S_far (p := ⟨gb641, 0, none⟩) (Kd.S_types HO636.out BK641.out (by decide)) (fun _ hk => hk.2) (.slice Ao16 t634.length co16)) (fun _ hk => hk.2) (.slice Ao18 t637.length co18)) (fun _ h_ => h_.1)))); (case side2 => exact (Kd.S_reads' HO636.out).2.1); (case side3 => refine (Kd.S_reads' (e := 31) (base := w.heap.size) (ok := fun k_ => some k_ ≠ (.slice Ao16 t634.length co16 : Value).ownBlock) (n := t637.length) (c := co18) ?_).2.2; exact (by (with_reducible repeat (first | apply Kd.S_alloc | apply Kd.S_drewN | apply Kd.S_drew)); exact (Kd.S_mono (Kd.S_far (p := ⟨gb641, 1, none⟩) (Kd.S_far (p := ⟨gb641, 0, none⟩) (Kd.S_types HO639.out BK641.out (by decide)) (fun _ hk => hk.2) (.slice Ao16 t634.length co16)) (fun _ hk => hk.2) (.slice Ao18 t637.length co18)) (fun _ h_ => h_.1)))); (case side4 => exact (Kd.S_reads' HO639.out).2.1); rintro e w19 ⟨v643, rfl, ho0, hb⟩; have n0_ := Aside0.mk (Kd.S_below (by (with_reducible repeat (first | apply Kd.S_alloc | apply Kd.S_drewN | apply Kd.S_drew)); exact (Kd.S_mono (Kd.S_far (p := ⟨gb641, 1, none⟩) (Kd.S_far (p := ⟨gb641, 0, none⟩) (Kd.S_types HO636.out BK641.out (by decide)) (fun _ hk => hk.2) (.slice Ao16 t634.length co16)) (fun _ hk => hk.2) (.slice Ao18 t637.length co18)) (fun _ h_ => h_.1))) hb); have n1_ := Aside0.mk (Kd.S_below (by (with_reducible repeat (first | apply Kd.S_alloc | apply Kd.S_drewN | apply Kd.S_drew)); exact (Kd.S_mono (Kd.S_far (p := ⟨gb641, 1, none⟩) (Kd.S_far (p := ⟨gb641, 0, none⟩) (Kd.S_types HO639.out BK641.out (by decide)) (fun _ hk => hk.2) (.slice Ao16 t634.length co16)) (fun _ hk => hk.2) (.slice Ao18 t637.length co18)) (fun _ h_ => h_.1))) hb); have n2_ := Aside0.mk (Kd.S_lower ho0 (below_size (B1_))); have n3_ := Aside0.mk (blk_below (g := gb641) (o := .cells #[.slice Ao16 t634.length co16, .slice Ao18 t637.length co18] 26 (0, 0)) (by (with_reducible repeat (first | refine blk_drewN ?_ _ | refine blk_drew ?_ | refine blk_alloc ?_ _)); refine blk_put (cs := #[.slice Ao16 t634.length co16, .slice none 0 0]) ?_ 1 _ rfl; (with_reducible repeat (first | refine blk_drewN ?_ _ | refine blk_drew ?_ | refine blk_alloc ?_ _)); refine blk_put (cs := #[.slice none 0 0, .slice none 0 0]) ?_ 0 _ rfl; exact KX_ BK641.out) hb); have n4_ := Aside0.mk (below_step (B1_) hb); clear HO636; clear HO639; clear BK641; clear HB; have HO636 := n0_; have HO639 := n1_; have HO644 := n2_; have BK641 := n3_; have HB := n4_; clear n0_ n1_ n2_ n3_ n4_; (try clear hb); (try clear hb2); (try clear hk); (try clear hi); (try clear ho0); have hcz20_0 : w19.cell? ⟨gb641, 0, none⟩ = some (.slice Ao16 t634.length co16) := (blk_cell BK641.out 0).trans rfl; have hcz20_1 : w19.cell? ⟨gb641, 1, none⟩ = some (.slice Ao18 t637.length co18) := (blk_cell BK641.out 1).trans rfl; have hfz20_0 := blk_frozen BK641.out 0; have hfz20_1 := blk_frozen BK641.out 1) | (go_at_call 22; (with_reducible refine (loop_Backs.calls k1 _ _ t634 _ _ t637 t645 _ ?side1 ?side2 ?side3 ?side4 A13.out).mono ?_); (case side1 => repeat (first | exact (Kd.S_reads' HO636.out).2.2 | (with_reducible refine Kd.C_alloc ?_ _) | (with_reducible refine Kd.C_drewN ?_ _) | (with_reducible refine Kd.C_drew ?_))); (case side2 => exact (Kd.S_reads' HO636.out).2.1); (case side3 => repeat (first | exact (Kd.S_reads' HO639.out).2.2 | (with_reducible refine Kd.C_alloc ?_ _) | (with_reducible refine Kd.C_drewN ?_ _) | (with_reducible refine Kd.C_drew ?_))); (case side4 => exact (Kd.S_reads' HO639.out).2.1); rintro e w21 ⟨v646, rfl, ho0, hb⟩; have n0_ := Aside0.mk (Kd.S_below (by exact SX_ HO636.out) hb); have n1_ := Aside0.mk (Kd.S_below (by exact SX_ HO639.out) hb); have n2_ := Aside0.mk (Kd.S_below (by exact SX_ HO644.out) hb); have n3_ := Aside0.mk (Kd.R_lower ho0 (below_size (B1_))); have n4_ := Aside0.mk (blk_below (g := gb641) (o := .cells #[.slice Ao16 t634.length co16, .slice Ao18 t637.length co18] 26 (0, 0)) (by exact KX_ BK641.out) hb); have n5_ := Aside0.mk (below_step (B1_) hb); clear HO636; clear HO639; clear HO644; clear BK641; clear HB; have HO636 := n0_; have HO639 := n1_; have HO644 := n2_; have HO647 := n3_; have BK641 := n4_; have HB := n5_; clear n0_ n1_ n2_ n3_ n4_ n5_; (try clear hb); (try clear hb2); (try clear hk); (try clear hi); (try clear ho0)))
     repeat (go_quiet (first | (go_at_call 11; (with_reducible refine (graph_Make.calls k1 _ _ l0 t634 t637 t640 _ ?side1 ?side2 A10.out).mono ?_); (case side1 => exact CX_ (Kd.C_below HR0.out HB.out)); (case side2 => exact HC0.out); rintro e w14 ⟨v635, v638, rfl, ho0, ho1, hb⟩; have n0_ := Aside0.mk (Kd.S_lower ho0 (below_size (B_))); have n1_ := Aside0.mk (Kd.S_lower ho1 (below_size (B_))); have n2_ := Aside0.mk (below_step (B_) hb); clear HB; have HO636 := n0_; have HO639 := n1_; have HB := n2_; clear n0_ n1_ n2_; (try clear hb); (try clear hb2); (try clear hk); (try clear hi); (try clear ho0); (try clear ho1)) | ((with_reducible refine gate_dst (N := 4) rfl ?_); refine box_event ?hg (N := 4) ?hd (cs := #[.slice none 0 0, .slice none 0 0]) (t := 26) ?hr ?_; (case hd => rfl); (case hg => rfl); (case hr => first | (go_simp; done) | (go_simp; rfl)); intro gb641 hg w15 hbox hb; have n0_ := Aside0.mk (Kd.S_below (by exact SX_ HO636.out) hb); have n1_ := Aside0.mk (Kd.S_below (by exact SX_ HO639.out) hb); have n2_ := Aside0.mk (below_step (B_) hb); have n3_ := Aside0.mk (hbox); have n4_ := Aside0.mk ((by rw [hg]; exact (below_size (B_)) : w.heap.size ≤ gb641)); have n5_ := Aside0.mk ((by rw [hg]; exact (below_size (B_)) : w.heap.size ≤ gb641)); clear HO636; clear HO639; clear HB; have HO636 := n0_; have HO639 := n1_; have HB := n2_; have BK641 := n3_; have GW641 := n4_; have GE641 := n5_; clear n0_ n1_ n2_ n3_ n4_ n5_; clear hb hbox hg; obtain ⟨Ao16, co16, eo16⟩ := Kd.S_slice HO636.out; subst eo16; have hcz17_0 : w15.cell? ⟨gb641, 0, none⟩ = some (.slice none 0 0) := (blk_cell BK641.out 0).trans rfl; have hcz17_1 : w15.cell? ⟨gb641, 1, none⟩ = some (.slice none 0 0) := (blk_cell BK641.out 1).trans rfl; have hfz17_0 := blk_frozen BK641.out 0; have hfz17_1 := blk_frozen BK641.out 1; obtain ⟨Ao18, co18, eo18⟩ := Kd.S_slice HO639.out; subst eo18) | (go_at_call 18; (with_reducible refine (loop_All.calls k1 _ _ t634 _ _ t637 t642 _ ?side1 ?side2 ?side3 ?side4 A12.out).mono ?_); (case side1 => refine (Kd.S_reads' (e := 31) (base := w.heap.size) (ok := fun k_ => some k_ ≠ (.slice Ao18 t637.length co18 : Value).ownBlock) (n := t634.length) (c := co16) ?_).2.2; exact (by (with_reducible repeat (first | apply Kd.S_alloc | apply Kd.S_drewN | apply Kd.S_drew)); exact (Kd.S_mono (Kd.S_far (p := ⟨gb641, 1, none⟩) (Kd.S_far (p := ⟨gb641, 0, none⟩) (Kd.S_types HO636.out BK641.out (by decide)) (fun _ hk => hk.2) (.slice Ao16 t634.length co16)) (fun _ hk => hk.2) (.slice Ao18 t637.length co18)) (fun _ h_ => h_.1)))); (case side2 => exact (Kd.S_reads' HO636.out).2.1); (case side3 => refine (Kd.S_reads' (e := 31) (base := w.heap.size) (ok := fun k_ => some k_ ≠ (.slice Ao16 t634.length co16 : Value).ownBlock) (n := t637.length) (c := co18) ?_).2.2; exact (by (with_reducible repeat (first | apply Kd.S_alloc | apply Kd.S_drewN | apply Kd.S_drew)); exact (Kd.S_mono (Kd.S_far (p := ⟨gb641, 1, none⟩) (Kd.S_far (p := ⟨gb641, 0, none⟩) (Kd.S_types HO639.out BK641.out (by decide)) (fun _ hk => hk.2) (.slice Ao16 t634.length co16)) (fun _ hk => hk.2) (.slice Ao18 t637.length co18)) (fun _ h_ => h_.1)))); (case side4 => exact (Kd.S_reads' HO639.out).2.1); rintro e w19 ⟨v643, rfl, ho0, hb⟩; have n0_ := Aside0.mk (Kd.S_below (by (with_reducible repeat (first | apply Kd.S_alloc | apply Kd.S_drewN | apply Kd.S_drew)); exact (Kd.S_mono (Kd.S_far (p := ⟨gb641, 1, none⟩) (Kd.S_far (p := ⟨gb641, 0, none⟩) (Kd.S_types HO636.out BK641.out (by decide)) (fun _ hk => hk.2) (.slice Ao16 t634.length co16)) (fun _ hk => hk.2) (.slice Ao18 t637.length co18)) (fun _ h_ => h_.1))) hb); have n1_ := Aside0.mk (Kd.S_below (by (with_reducible repeat (first | apply Kd.S_alloc | apply Kd.S_drewN | apply Kd.S_drew)); exact (Kd.S_mono (Kd.S_far (p := ⟨gb641, 1, none⟩) (Kd.S_far (p := ⟨gb641, 0, none⟩) (Kd.S_types HO639.out BK641.out (by decide)) (fun _ hk => hk.2) (.slice Ao16 t634.length co16)) (fun _ hk => hk.2) (.slice Ao18 t637.length co18)) (fun _ h_ => h_.1))) hb); have n2_ := Aside0.mk (Kd.S_lower ho0 (below_size (B1_))); have n3_ := Aside0.mk (blk_below (g := gb641) (o := .cells #[.slice Ao16 t634.length co16, .slice Ao18 t637.length co18] 26 (0, 0)) (by (with_reducible repeat (first | refine blk_drewN ?_ _ | refine blk_drew ?_ | refine blk_alloc ?_ _)); refine blk_put (cs := #[.slice Ao16 t634.length co16, .slice none 0 0]) ?_ 1 _ rfl; (with_reducible repeat (first | refine blk_drewN ?_ _ | refine blk_drew ?_ | refine blk_alloc ?_ _)); refine blk_put (cs := #[.slice none 0 0, .slice none 0 0]) ?_ 0 _ rfl; exact KX_ BK641.out) hb); have n4_ := Aside0.mk (below_step (B1_) hb); clear HO636; clear HO639; clear BK641; clear HB; have HO636 := n0_; have HO639 := n1_; have HO644 := n2_; have BK641 := n3_; have HB := n4_; clear n0_ n1_ n2_ n3_ n4_; (try clear hb); (try clear hb2); (try clear hk); (try clear hi); (try clear ho0); have hcz20_0 : w19.cell? ⟨gb641, 0, none⟩ = some (.slice Ao16 t634.length co16) := (blk_cell BK641.out 0).trans rfl; have hcz20_1 : w19.cell? ⟨gb641, 1, none⟩ = some (.slice Ao18 t637.length co18) := (blk_cell BK641.out 1).trans rfl; have hfz20_0 := blk_frozen BK641.out 0; have hfz20_1 := blk_frozen BK641.out 1) | (go_at_call 22; (with_reducible refine (loop_Backs.calls k1 _ _ t634 _ _ t637 t645 _ ?side1 ?side2 ?side3 ?side4 A13.out).mono ?_); (case side1 => repeat (first | exact (Kd.S_reads' HO636.out).2.2 | (with_reducible refine Kd.C_alloc ?_ _) | (with_reducible refine Kd.C_drewN ?_ _) | (with_reducible refine Kd.C_drew ?_))); (case side2 => exact (Kd.S_reads' HO636.out).2.1); (case side3 => repeat (first | exact (Kd.S_reads' HO639.out).2.2 | (with_reducible refine Kd.C_alloc ?_ _) | (with_reducible refine Kd.C_drewN ?_ _) | (with_reducible refine Kd.C_drew ?_))); (case side4 => exact (Kd.S_reads' HO639.out).2.1); rintro e w21 ⟨v646, rfl, ho0, hb⟩; have n0_ := Aside0.mk (Kd.S_below (by exact SX_ HO636.out) hb); have n1_ := Aside0.mk (Kd.S_below (by exact SX_ HO639.out) hb); have n2_ := Aside0.mk (Kd.S_below (by exact SX_ HO644.out) hb); have n3_ := Aside0.mk (Kd.R_lower ho0 (below_size (B1_))); have n4_ := Aside0.mk (blk_below (g := gb641) (o := .cells #[.slice Ao16 t634.length co16, .slice Ao18 t637.length co18] 26 (0, 0)) (by exact KX_ BK641.out) hb); have n5_ := Aside0.mk (below_step (B1_) hb); clear HO636; clear HO639; clear HO644; clear BK641; clear HB; have HO636 := n0_; have HO639 := n1_; have HO644 := n2_; have HO647 := n3_; have BK641 := n4_; have HB := n5_; clear n0_ n1_ n2_ n3_ n4_ n5_; (try clear hb); (try clear hb2); (try clear hk); (try clear hi); (try clear ho0))); try go_wp2_with (first | (go_at_call 11; (with_reducible refine (graph_Make.calls k1 _ _ l0 t634 t637 t640 _ ?side1 ?side2 A10.out).mono ?_); (case side1 => exact CX_ (Kd.C_below HR0.out HB.out)); (case side2 => exact HC0.out); rintro e w14 ⟨v635, v638, rfl, ho0, ho1, hb⟩; have n0_ := Aside0.mk (Kd.S_lower ho0 (below_size (B_))); have n1_ := Aside0.mk (Kd.S_lower ho1 (below_size (B_))); have n2_ := Aside0.mk (below_step (B_) hb); clear HB; have HO636 := n0_; have HO639 := n1_; have HB := n2_; clear n0_ n1_ n2_; (try clear hb); (try clear hb2); (try clear hk); (try clear hi); (try clear ho0); (try clear ho1)) | ((with_reducible refine gate_dst (N := 4) rfl ?_); refine box_event ?hg (N := 4) ?hd (cs := #[.slice none 0 0, .slice none 0 0]) (t := 26) ?hr ?_; (case hd => rfl); (case hg => rfl); (case hr => first | (go_simp; done) | (go_simp; rfl)); intro gb641 hg w15 hbox hb; have n0_ := Aside0.mk (Kd.S_below (by exact SX_ HO636.out) hb); have n1_ := Aside0.mk (Kd.S_below (by exact SX_ HO639.out) hb); have n2_ := Aside0.mk (below_step (B_) hb); have n3_ := Aside0.mk (hbox); have n4_ := Aside0.mk ((by rw [hg]; exact (below_size (B_)) : w.heap.size ≤ gb641)); have n5_ := Aside0.mk ((by rw [hg]; exact (below_size (B_)) : w.heap.size ≤ gb641)); clear HO636; clear HO639; clear HB; have HO636 := n0_; have HO639 := n1_; have HB := n2_; have BK641 := n3_; have GW641 := n4_; have GE641 := n5_; clear n0_ n1_ n2_ n3_ n4_ n5_; clear hb hbox hg; obtain ⟨Ao16, co16, eo16⟩ := Kd.S_slice HO636.out; subst eo16; have hcz17_0 : w15.cell? ⟨gb641, 0, none⟩ = some (.slice none 0 0) := (blk_cell BK641.out 0).trans rfl; have hcz17_1 : w15.cell? ⟨gb641, 1, none⟩ = some (.slice none 0 0) := (blk_cell BK641.out 1).trans rfl; have hfz17_0 := blk_frozen BK641.out 0; have hfz17_1 := blk_frozen BK641.out 1; obtain ⟨Ao18, co18, eo18⟩ := Kd.S_slice HO639.out; subst eo18) | (go_at_call 18; (with_reducible refine (loop_All.calls k1 _ _ t634 _ _ t637 t642 _ ?side1 ?side2 ?side3 ?side4 A12.out).mono ?_); (case side1 => refine (Kd.S_reads' (e := 31) (base := w.heap.size) (ok := fun k_ => some k_ ≠ (.slice Ao18 t637.length co18 : Value).ownBlock) (n := t634.length) (c := co16) ?_).2.2; exact (by (with_reducible repeat (first | apply Kd.S_alloc | apply Kd.S_drewN | apply Kd.S_drew)); exact (Kd.S_mono (Kd.S_far (p := ⟨gb641, 1, none⟩) (Kd.S_far (p := ⟨gb641, 0, none⟩) (Kd.S_types HO636.out BK641.out (by decide)) (fun _ hk => hk.2) (.slice Ao16 t634.length co16)) (fun _ hk => hk.2) (.slice Ao18 t637.length co18)) (fun _ h_ => h_.1)))); (case side2 => exact (Kd.S_reads' HO636.out).2.1); (case side3 => refine (Kd.S_reads' (e := 31) (base := w.heap.size) (ok := fun k_ => some k_ ≠ (.slice Ao16 t634.length co16 : Value).ownBlock) (n := t637.length) (c := co18) ?_).2.2; exact (by (with_reducible repeat (first | apply Kd.S_alloc | apply Kd.S_drewN | apply Kd.S_drew)); exact (Kd.S_mono (Kd.S_far (p := ⟨gb641, 1, none⟩) (Kd.S_far (p := ⟨gb641, 0, none⟩) (Kd.S_types HO639.out BK641.out (by decide)) (fun _ hk => hk.2) (.slice Ao16 t634.length co16)) (fun _ hk => hk.2) (.slice Ao18 t637.length co18)) (fun _ h_ => h_.1)))); (case side4 => exact (Kd.S_reads' HO639.out).2.1); rintro e w19 ⟨v643, rfl, ho0, hb⟩; have n0_ := Aside0.mk (Kd.S_below (by (with_reducible repeat (first | apply Kd.S_alloc | apply Kd.S_drewN | apply Kd.S_drew)); exact (Kd.S_mono (Kd.S_far (p := ⟨gb641, 1, none⟩) (Kd.S_far (p := ⟨gb641, 0, none⟩) (Kd.S_types HO636.out BK641.out (by decide)) (fun _ hk => hk.2) (.slice Ao16 t634.length co16)) (fun _ hk => hk.2) (.slice Ao18 t637.length co18)) (fun _ h_ => h_.1))) hb); have n1_ := Aside0.mk (Kd.S_below (by (with_reducible repeat (first | apply Kd.S_alloc | apply Kd.S_drewN | apply Kd.S_drew)); exact (Kd.S_mono (Kd.S_far (p := ⟨gb641, 1, none⟩) (Kd.S_far (p := ⟨gb641, 0, none⟩) (Kd.S_types HO639.out BK641.out (by decide)) (fun _ hk => hk.2) (.slice Ao16 t634.length co16)) (fun _ hk => hk.2) (.slice Ao18 t637.length co18)) (fun _ h_ => h_.1))) hb); have n2_ := Aside0.mk (Kd.S_lower ho0 (below_size (B1_))); have n3_ := Aside0.mk (blk_below (g := gb641) (o := .cells #[.slice Ao16 t634.length co16, .slice Ao18 t637.length co18] 26 (0, 0)) (by (with_reducible repeat (first | refine blk_drewN ?_ _ | refine blk_drew ?_ | refine blk_alloc ?_ _)); refine blk_put (cs := #[.slice Ao16 t634.length co16, .slice none 0 0]) ?_ 1 _ rfl; (with_reducible repeat (first | refine blk_drewN ?_ _ | refine blk_drew ?_ | refine blk_alloc ?_ _)); refine blk_put (cs := #[.slice none 0 0, .slice none 0 0]) ?_ 0 _ rfl; exact KX_ BK641.out) hb); have n4_ := Aside0.mk (below_step (B1_) hb); clear HO636; clear HO639; clear BK641; clear HB; have HO636 := n0_; have HO639 := n1_; have HO644 := n2_; have BK641 := n3_; have HB := n4_; clear n0_ n1_ n2_ n3_ n4_; (try clear hb); (try clear hb2); (try clear hk); (try clear hi); (try clear ho0); have hcz20_0 : w19.cell? ⟨gb641, 0, none⟩ = some (.slice Ao16 t634.length co16) := (blk_cell BK641.out 0).trans rfl; have hcz20_1 : w19.cell? ⟨gb641, 1, none⟩ = some (.slice Ao18 t637.length co18) := (blk_cell BK641.out 1).trans rfl; have hfz20_0 := blk_frozen BK641.out 0; have hfz20_1 := blk_frozen BK641.out 1) | (go_at_call 22; (with_reducible refine (loop_Backs.calls k1 _ _ t634 _ _ t637 t645 _ ?side1 ?side2 ?side3 ?side4 A13.out).mono ?_); (case side1 => repeat (first | exact (Kd.S_reads' HO636.out).2.2 | (with_reducible refine Kd.C_alloc ?_ _) | (with_reducible refine Kd.C_drewN ?_ _) | (with_reducible refine Kd.C_drew ?_))); (case side2 => exact (Kd.S_reads' HO636.out).2.1); (case side3 => repeat (first | exact (Kd.S_reads' HO639.out).2.2 | (with_reducible refine Kd.C_alloc ?_ _) | (with_reducible refine Kd.C_drewN ?_ _) | (with_reducible refine Kd.C_drew ?_))); (case side4 => exact (Kd.S_reads' HO639.out).2.1); rintro e w21 ⟨v646, rfl, ho0, hb⟩; have n0_ := Aside0.mk (Kd.S_below (by exact SX_ HO636.out) hb); have n1_ := Aside0.mk (Kd.S_below (by exact SX_ HO639.out) hb); have n2_ := Aside0.mk (Kd.S_below (by exact SX_ HO644.out) hb); have n3_ := Aside0.mk (Kd.R_lower ho0 (below_size (B1_))); have n4_ := Aside0.mk (blk_below (g := gb641) (o := .cells #[.slice Ao16 t634.length co16, .slice Ao18 t637.length co18] 26 (0, 0)) (by exact KX_ BK641.out) hb); have n5_ := Aside0.mk (below_step (B1_) hb); clear HO636; clear HO639; clear HO644; clear BK641; clear HB; have HO636 := n0_; have HO639 := n1_; have HO644 := n2_; have HO647 := n3_; have BK641 := n4_; have HB := n5_; clear n0_ n1_ n2_ n3_ n4_ n5_; (try clear hb); (try clear hb2); (try clear hk); (try clear hi); (try clear ho0))))
     go_loopg [8] k1 (fun kq v8 w' => ∃ (x8_2 : Int), v8 = .int .i64 x8_2 ∧ Aside0 (locksteplaw10_LoopSelf.l1 kq l0 t642 t645 x8_2 t634 t637 = some true) ∧ Aside0 (kq ≤ k1) ∧ Aside0 (Kd.S k43 43 w' w.heap.size (fun _ => True) v643 t642) ∧ Aside0 (Kd.R k48 48 w' w.heap.size (fun _ => True) v646 t645) ∧ Aside0 (Kd.S (Kd.slice 3 (Kd.int .i64)) 31 w' w.heap.size (fun k_ => some k_ ≠ ((.slice Ao18 t637.length co18) : Value).ownBlock) (.slice Ao16 t634.length co16) t634) ∧ Aside0 (Kd.S (Kd.slice 3 (Kd.int .i64)) 31 w' w.heap.size (fun k_ => some k_ ≠ ((.slice Ao16 t634.length co16) : Value).ownBlock) (.slice Ao18 t637.length co18) t637) ∧ Aside0 (w'.heap[gb641]? = some (.cells #[(.slice Ao16 t634.length co16), (.slice Ao18 t637.length co18)] 26 (0, 0))) ∧ Aside0 (Below w.heap.size w w'))
     case atStart => exact ⟨(0), (by first | rfl | exact congrArg (fun b => Ending.returned (Value.bool b)) HR_.out | (simp; done) | (simp [*]; done)), H', ⟨Nat.le_refl _⟩, ⟨by exact SM_ HO644.out⟩, ⟨by exact RM_ HO647.out⟩, ⟨by exact SM_ HO636.out⟩, ⟨by exact SM_ HO639.out⟩, ⟨by exact KX_ BK641.out⟩, ⟨B1_⟩⟩
     case round =>
      clear H'
      try clear c7b0
      try clear c11b0
      try clear c11b1
      try clear hcz17_0
      try clear hcz17_1
      try clear hcz20_0
      try clear hcz20_1
      try clear hfz17_0
      try clear hfz17_1
      try clear hfz20_0
      try clear hfz20_1
      obtain ⟨x8_2, rfl, HA, HK2, HO_6, HO_7, HO_642000, HO_642001, BK641, HB⟩ := hrel
      cases gk with
      | zero => exact absurd HA.out (by simp [locksteplaw10_LoopSelf.l1])
      | succ k2 =>
       have H := HA.out
       clear HA
       simp only [locksteplaw10_LoopSelf.l1] at H
       by_cases c22 : x8_2 < (t645.length : Int)
       ·rw [if_pos c22] at H
        have c22b0 : decide (x8_2 < (t645.length : Int)) = true := decide_eq_true c22
        clear c22
        have H' := Aside0.mk H
        clear H
        obtain ⟨Ao23, co23, eo23⟩ := Kd.R_slice HO_7.out
        subst eo23
        go_wp2
        repeat (go_quiet (fail); try go_wp2)
        go_loopg [9, 10] k2 (fun kq v9 v10 w' => ∃ (x9_3 : Bool) (x10_3 : Int), v9 = .bool x9_3 ∧ v10 = .int .i64 x10_3 ∧ Aside0 (locksteplaw10_LoopSelf.l2 kq l0 t642 t645 x8_2 x9_3 x10_3 t634 t637 = some true) ∧ Aside0 (kq ≤ k2) ∧ Aside0 (Kd.S k43 43 w' w.heap.size (fun _ => True) v643 t642) ∧ Aside0 (Kd.R k48 48 w' w.heap.size (fun _ => True) (.slice Ao23 t645.length co23) t645) ∧ Aside0 (Kd.S (Kd.slice 3 (Kd.int .i64)) 31 w' w.heap.size (fun k_ => some k_ ≠ ((.slice Ao18 t637.length co18) : Value).ownBlock) (.slice Ao16 t634.length co16) t634) ∧ Aside0 (Kd.S (Kd.slice 3 (Kd.int .i64)) 31 w' w.heap.size (fun k_ => some k_ ≠ ((.slice Ao16 t634.length co16) : Value).ownBlock) (.slice Ao18 t637.length co18) t637) ∧ Aside0 (w'.heap[gb641]? = some (.cells #[(.slice Ao16 t634.length co16), (.slice Ao18 t637.length co18)] 26 (0, 0))) ∧ Aside0 (Below w.heap.size w w'))
        case atStart => exact ⟨(false), (0), (by first | rfl | exact congrArg (fun b => Ending.returned (Value.bool b)) HR_.out | (simp; done) | (simp [*]; done)), (by first | rfl | exact congrArg (fun b => Ending.returned (Value.bool b)) HR_.out | (simp; done) | (simp [*]; done)), H', ⟨Nat.le_refl _⟩, ⟨by exact SM_ HO_6.out⟩, ⟨by exact RM_ HO_7.out⟩, ⟨by exact SM_ HO_642000.out⟩, ⟨by exact SM_ HO_642001.out⟩, ⟨by exact KX_ BK641.out⟩, ⟨B1_⟩⟩
        case round =>
         clear H'
         try clear c22b0
         obtain ⟨x9_3, x10_3, rfl, rfl, HA, HK3, HO_6, HO_7, HO_642000, HO_642001, BK641, HB⟩ := hrel
         cases gk with
         | zero => exact absurd HA.out (by simp [locksteplaw10_LoopSelf.l2])
         | succ k3 =>
          have H := HA.out
          clear HA
          simp only [locksteplaw10_LoopSelf.l2] at H
          by_cases c24 : x10_3 < (t642.length : Int)
          ·rw [if_pos c24] at H
           have c24b0 : decide (x10_3 < (t642.length : Int)) = true := decide_eq_true c24
           clear c24
           have H' := Aside0.mk H
           clear H
           obtain ⟨Ao25, co25, eo25⟩ := Kd.S_slice HO_6.out
           subst eo25
           go_wp2
           repeat (go_quiet (fail); try go_wp2)
           go_loopg [11, 12] k3 (fun kq v11 v12 w' => ∃ (x11_4 : Bool) (x12_4 : Int), v11 = .bool x11_4 ∧ v12 = .int .i64 x12_4 ∧ Aside0 (locksteplaw10_LoopSelf.l3 kq l0 t642 t645 x8_2 x9_3 x10_3 x11_4 x12_4 t634 t637 = some true) ∧ Aside0 (kq ≤ k3) ∧ Aside0 (Kd.S k43 43 w' w.heap.size (fun _ => True) (.slice Ao25 t642.length co25) t642) ∧ Aside0 (Kd.R k48 48 w' w.heap.size (fun _ => True) (.slice Ao23 t645.length co23) t645) ∧ Aside0 (Kd.S (Kd.slice 3 (Kd.int .i64)) 31 w' w.heap.size (fun k_ => some k_ ≠ ((.slice Ao18 t637.length co18) : Value).ownBlock) (.slice Ao16 t634.length co16) t634) ∧ Aside0 (Kd.S (Kd.slice 3 (Kd.int .i64)) 31 w' w.heap.size (fun k_ => some k_ ≠ ((.slice Ao16 t634.length co16) : Value).ownBlock) (.slice Ao18 t637.length co18) t637) ∧ Aside0 (w'.heap[gb641]? = some (.cells #[(.slice Ao16 t634.length co16), (.slice Ao18 t637.length co18)] 26 (0, 0))) ∧ Aside0 (Below w.heap.size w w'))
           case atStart => exact ⟨(false), (0), (by first | rfl | exact congrArg (fun b => Ending.returned (Value.bool b)) HR_.out | (simp; done) | (simp [*]; done)), (by first | rfl | exact congrArg (fun b => Ending.returned (Value.bool b)) HR_.out | (simp; done) | (simp [*]; done)), H', ⟨Nat.le_refl _⟩, ⟨by exact SM_ HO_6.out⟩, ⟨by exact RM_ HO_7.out⟩, ⟨by exact SM_ HO_642000.out⟩, ⟨by exact SM_ HO_642001.out⟩, ⟨by exact KX_ BK641.out⟩, ⟨B1_⟩⟩
           case round =>
            clear H'
            try clear c24b0
            obtain ⟨x11_4, x12_4, rfl, rfl, HA, HK4, HO_6, HO_7, HO_642000, HO_642001, BK641, HB⟩ := hrel
            cases gk with
            | zero => exact absurd HA.out (by simp [locksteplaw10_LoopSelf.l3])
            | succ k4 =>
             have H := HA.out
             clear HA
             simp only [locksteplaw10_LoopSelf.l3] at H
             by_cases c26 : 0 ≤ x10_3
             ·rw [if_pos c26] at H
              have c26b0 : decide (0 ≤ x10_3) = true := decide_eq_true c26
              clear c26
              by_cases c27 : x10_3 < (t642.length : Int)
              ·rw [if_pos c27] at H
               have c27b0 : decide (x10_3 < (t642.length : Int)) = true := decide_eq_true c27
               clear c27
               by_cases c28 : x12_4 < (((rd_T43 t642 x10_3).f1).length : Int)
               ·rw [if_pos c28] at H
                have c28b0 : decide (x12_4 < (((rd_T43 t642 x10_3).f1).length : Int)) = true := decide_eq_true c28
                clear c28
                by_cases c29 : x11_4 = true
                ·subst c29
                 have H1 : (locksteplaw10_LoopSelf.l3 k4 l0 t642 t645 x8_2 x9_3 x10_3 true (wrap64 (x12_4 + 1)) t634 t637) = some true := by rw [if_pos rfl] at H; exact H
                 clear H
                 have H := H1
                 clear H1
                 have H' := Aside0.mk H
                 clear H
                 have p648 : 0 ≤ (x10_3 : Int) := D_
                 have q648 : x10_3 < (t642.length : Int) := D_
                 obtain ⟨ad648, A648_1, c648_1, e648, hx648_0, hx648_1, hl648_1, hi648_1⟩ := at_T43 (Kd.S_reads' HO_6.out).2.2 x10_3 p648 q648
                 cases e648
                 obtain ⟨ce648, hce648, hMe648, hcc648⟩ := Kd.S_get HO_6.out z43 x10_3 p648 (by first | exact q648 | exact D_ | (have e_ := (Kd.S_reads' HO_6.out).1; omega))
                 obtain ⟨ve648_1, rfl, ge648_1⟩ := k43_openM hMe648
                 have hv648_1 := hcc648 1 _ rfl
                 rw [add_field _ _ 1 (by omega)] at hv648_1
                 replace hv648_1 := Option.some.inj (hv648_1.symm.trans hx648_1)
                 rw [hv648_1] at ge648_1
                 have HL648_1 := Aside0.mk (show Kd.R (Kd.int .i64) 3 _ _ _ _ ((rd_T43 t642 x10_3).f1) from ge648_1)
                 clear hv648_1 ge648_1
                 clear hcc648 hce648
                 have HR648_1 := Aside0.mk hi648_1
                 have HC648_1 := Aside0.mk hl648_1
                 clear hi648_1 hl648_1
                 replace p648 := eq_true p648
                 replace q648 := eq_true q648
                 go_wp2
                 repeat (go_quiet (fail); try go_wp2)
                 go_roundg k4
                 case measure => have := HK1.out; have := HK2.out; have := HK3.out; have := HK4.out; omega
                 case rel => exact ⟨(true), (wrap64 (x12_4 + 1)), (by first | rfl | exact congrArg (fun b => Ending.returned (Value.bool b)) HR_.out | (simp; done) | (simp [*]; done)), (by first | rfl | exact congrArg (fun b => Ending.returned (Value.bool b)) HR_.out | (simp; done) | (simp [*]; done)), H', ⟨by have := HK1.out; have := HK2.out; have := HK3.out; have := HK4.out; omega⟩, ⟨by exact SM_ HO_6.out⟩, ⟨by exact RM_ HO_7.out⟩, ⟨by exact SM_ HO_642000.out⟩, ⟨by exact SM_ HO_642001.out⟩, ⟨by exact KX_ BK641.out⟩, ⟨B1_⟩⟩
                replace c29 := Bool.eq_false_iff.mpr c29
                subst c29
                have H1 : (if 0 ≤ x12_4 then (if 0 ≤ x8_2 then (if x8_2 < (t645.length : Int) then (locksteplaw10_LoopSelf.l3 k4 l0 t642 t645 x8_2 x9_3 x10_3 ((rd ((rd_T43 t642 x10_3).f1) x12_4) == ((rd_T48 t645 x8_2).f0)) (wrap64 (x12_4 + 1)) t634 t637) else (none)) else (none)) else (none)) = some true := by rw [if_neg (show ¬ (false = true) by decide)] at H; exact H
                clear H
                have H := H1
                clear H1
                by_cases c30 : 0 ≤ x12_4
                ·rw [if_pos c30] at H
                 have c30b0 : decide (0 ≤ x12_4) = true := decide_eq_true c30
                 clear c30
                 by_cases c31 : 0 ≤ x8_2
                 ·rw [if_pos c31] at H
                  have c31b0 : decide (0 ≤ x8_2) = true := decide_eq_true c31
                  clear c31
                  by_cases c32 : x8_2 < (t645.length : Int)
                  ·rw [if_pos c32] at H
                   have c32b0 : decide (x8_2 < (t645.length : Int)) = true := decide_eq_true c32
                   clear c32
                   have H' := Aside0.mk H
                   clear H
                   have p648 : 0 ≤ (x10_3 : Int) := D_
                   have q648 : x10_3 < (t642.length : Int) := D_
                   obtain ⟨ad648, A648_1, c648_1, e648, hx648_0, hx648_1, hl648_1, hi648_1⟩ := at_T43 (Kd.S_reads' HO_6.out).2.2 x10_3 p648 q648
                   cases e648
                   obtain ⟨ce648, hce648, hMe648, hcc648⟩ := Kd.S_get HO_6.out z43 x10_3 p648 (by first | exact q648 | exact D_ | (have e_ := (Kd.S_reads' HO_6.out).1; omega))
                   obtain ⟨ve648_1, rfl, ge648_1⟩ := k43_openM hMe648
                   have hv648_1 := hcc648 1 _ rfl
                   rw [add_field _ _ 1 (by omega)] at hv648_1
                   replace hv648_1 := Option.some.inj (hv648_1.symm.trans hx648_1)
                   rw [hv648_1] at ge648_1
                   have HL648_1 := Aside0.mk (show Kd.R (Kd.int .i64) 3 _ _ _ _ ((rd_T43 t642 x10_3).f1) from ge648_1)
                   clear hv648_1 ge648_1
                   clear hcc648 hce648
                   have HR648_1 := Aside0.mk hi648_1
                   have HC648_1 := Aside0.mk hl648_1
                   clear hi648_1 hl648_1
                   replace p648 := eq_true p648
                   replace q648 := eq_true q648
                   have p649 : 0 ≤ (x10_3 : Int) := D_
                   have q649 : x10_3 < (t642.length : Int) := D_
                   obtain ⟨ad649, A649_1, c649_1, e649, hx649_0, hx649_1, hl649_1, hi649_1⟩ := at_T43 (Kd.S_reads' HO_6.out).2.2 x10_3 p649 q649
                   obtain rfl : ad648 = ad649 := (by injection e649)
                   obtain ⟨ce649, hce649, hMe649, hcc649⟩ := Kd.S_get HO_6.out z43 x10_3 p649 (by first | exact q649 | exact D_ | (have e_ := (Kd.S_reads' HO_6.out).1; omega))
                   obtain ⟨ve649_1, rfl, ge649_1⟩ := k43_openM hMe649
                   have hv649_1 := hcc649 1 _ rfl
                   rw [add_field _ _ 1 (by omega)] at hv649_1
                   replace hv649_1 := Option.some.inj (hv649_1.symm.trans hx649_1)
                   rw [hv649_1] at ge649_1
                   have HL649_1 := Aside0.mk (show Kd.R (Kd.int .i64) 3 _ _ _ _ ((rd_T43 t642 x10_3).f1) from ge649_1)
                   clear hv649_1 ge649_1
                   clear hcc649 hce649
                   have HR649_1 := Aside0.mk hi649_1
                   have HC649_1 := Aside0.mk hl649_1
                   clear hi649_1 hl649_1
                   replace p649 := eq_true p649
                   replace q649 := eq_true q649
                   have ea_ := Option.some.inj (hx648_1.symm.trans hx649_1)
                   injection ea_ with ea_ en_ ec_
                   subst ea_
                   subst ec_
                   clear en_
                   have p650 : 0 ≤ (x12_4 : Int) := D_
                   have q650 : x12_4 < (((rd_T43 t642 x10_3).f1).length : Int) := D_
                   obtain ⟨ad650, e650, hx650_0⟩ := Kd.at_int (by repeat (first | (with_reducible exact HR649_1.out) | (with_reducible refine Kd.C_alloc ?_ _) | (with_reducible refine Kd.C_drewN ?_ _) | (with_reducible refine Kd.C_drew ?_) | exact HR649_1.out)) x12_4 p650 q650
                   cases e650
                   replace p650 := eq_true p650
                   replace q650 := eq_true q650
                   have p651 : 0 ≤ (x8_2 : Int) := D_
                   have q651 : x8_2 < (t645.length : Int) := D_
                   obtain ⟨ad651, e651, hx651_0, hx651_1⟩ := at_T48 (Kd.R_reads' HO_7.out).2.2 x8_2 p651 q651
                   cases e651
                   replace p651 := eq_true p651
                   replace q651 := eq_true q651
                   go_wp2
                   repeat (go_quiet (fail); try go_wp2)
                   go_roundg k4
                   case measure => have := HK1.out; have := HK2.out; have := HK3.out; have := HK4.out; omega
                   case rel => exact ⟨(((rd ((rd_T43 t642 x10_3).f1) x12_4) == ((rd_T48 t645 x8_2).f0))), (wrap64 (x12_4 + 1)), (by first | rfl | exact congrArg (fun b => Ending.returned (Value.bool b)) HR_.out | (simp; done) | (simp [*]; done)), (by first | rfl | exact congrArg (fun b => Ending.returned (Value.bool b)) HR_.out | (simp; done) | (simp [*]; done)), H', ⟨by have := HK1.out; have := HK2.out; have := HK3.out; have := HK4.out; omega⟩, ⟨by exact SM_ HO_6.out⟩, ⟨by exact RM_ HO_7.out⟩, ⟨by exact SM_ HO_642000.out⟩, ⟨by exact SM_ HO_642001.out⟩, ⟨by exact KX_ BK641.out⟩, ⟨B1_⟩⟩
                  rw [if_neg c32] at H
                  exact absurd H (by simp)
                 rw [if_neg c31] at H
                 exact absurd H (by simp)
                rw [if_neg c30] at H
                exact absurd H (by simp)
               rw [if_neg c28] at H
               have c28b0 : decide (x12_4 < (((rd_T43 t642 x10_3).f1).length : Int)) = false := decide_eq_false c28
               clear c28
               by_cases c33 : x9_3 = true
               ·subst c33
                have H1 : (locksteplaw10_LoopSelf.l2 k4 l0 t642 t645 x8_2 true (wrap64 (x10_3 + 1)) t634 t637) = some true := by rw [if_pos rfl] at H; exact H
                clear H
                have H := H1
                clear H1
                have H' := Aside0.mk H
                clear H
                have p648 : 0 ≤ (x10_3 : Int) := D_
                have q648 : x10_3 < (t642.length : Int) := D_
                obtain ⟨ad648, A648_1, c648_1, e648, hx648_0, hx648_1, hl648_1, hi648_1⟩ := at_T43 (Kd.S_reads' HO_6.out).2.2 x10_3 p648 q648
                cases e648
                obtain ⟨ce648, hce648, hMe648, hcc648⟩ := Kd.S_get HO_6.out z43 x10_3 p648 (by first | exact q648 | exact D_ | (have e_ := (Kd.S_reads' HO_6.out).1; omega))
                obtain ⟨ve648_1, rfl, ge648_1⟩ := k43_openM hMe648
                have hv648_1 := hcc648 1 _ rfl
                rw [add_field _ _ 1 (by omega)] at hv648_1
                replace hv648_1 := Option.some.inj (hv648_1.symm.trans hx648_1)
                rw [hv648_1] at ge648_1
                have HL648_1 := Aside0.mk (show Kd.R (Kd.int .i64) 3 _ _ _ _ ((rd_T43 t642 x10_3).f1) from ge648_1)
                clear hv648_1 ge648_1
                clear hcc648 hce648
                have HR648_1 := Aside0.mk hi648_1
                have HC648_1 := Aside0.mk hl648_1
                clear hi648_1 hl648_1
                replace p648 := eq_true p648
                replace q648 := eq_true q648
                go_wp2
                repeat (go_quiet (fail); try go_wp2)
                go_roundg k4
                case measure => have := HK1.out; have := HK2.out; have := HK3.out; have := HK4.out; omega
                case rel => exact ⟨(true), (wrap64 (x10_3 + 1)), (by first | rfl | exact congrArg (fun b => Ending.returned (Value.bool b)) HR_.out | (simp; done) | (simp [*]; done)), (by first | rfl | exact congrArg (fun b => Ending.returned (Value.bool b)) HR_.out | (simp; done) | (simp [*]; done)), H', ⟨by have := HK1.out; have := HK2.out; have := HK3.out; have := HK4.out; omega⟩, ⟨by exact SM_ HO_6.out⟩, ⟨by exact RM_ HO_7.out⟩, ⟨by exact SM_ HO_642000.out⟩, ⟨by exact SM_ HO_642001.out⟩, ⟨by exact KX_ BK641.out⟩, ⟨B1_⟩⟩
               replace c33 := Bool.eq_false_iff.mpr c33
               subst c33
               have H1 : (if 0 ≤ x8_2 then (if x8_2 < (t645.length : Int) then (if ((rd_T43 t642 x10_3).f0) = ((rd_T48 t645 x8_2).f1) then (locksteplaw10_LoopSelf.l2 k4 l0 t642 t645 x8_2 x11_4 (wrap64 (x10_3 + 1)) t634 t637) else (locksteplaw10_LoopSelf.l2 k4 l0 t642 t645 x8_2 false (wrap64 (x10_3 + 1)) t634 t637)) else (none)) else (none)) = some true := by rw [if_neg (show ¬ (false = true) by decide)] at H; exact H
               clear H
               have H := H1
               clear H1
               by_cases c34 : 0 ≤ x8_2
               ·rw [if_pos c34] at H
                have c34b0 : decide (0 ≤ x8_2) = true := decide_eq_true c34
                clear c34
                by_cases c35 : x8_2 < (t645.length : Int)
                ·rw [if_pos c35] at H
                 have c35b0 : decide (x8_2 < (t645.length : Int)) = true := decide_eq_true c35
                 clear c35
                 by_cases c36 : ((rd_T43 t642 x10_3).f0) = ((rd_T48 t645 x8_2).f1)
                 ·rw [if_pos c36] at H
                  have c36b0 : (((rd_T43 t642 x10_3).f0) == ((rd_T48 t645 x8_2).f1)) = true := beq_iff_eq.mpr c36
                  have c36b1 : (((rd_T43 t642 x10_3).f0) != ((rd_T48 t645 x8_2).f1)) = false := bne_eq_false_iff_eq.mpr c36
                  clear c36
                  have H' := Aside0.mk H
                  clear H
                  have p648 : 0 ≤ (x10_3 : Int) := D_
                  have q648 : x10_3 < (t642.length : Int) := D_
                  obtain ⟨ad648, A648_1, c648_1, e648, hx648_0, hx648_1, hl648_1, hi648_1⟩ := at_T43 (Kd.S_reads' HO_6.out).2.2 x10_3 p648 q648
                  cases e648
                  obtain ⟨ce648, hce648, hMe648, hcc648⟩ := Kd.S_get HO_6.out z43 x10_3 p648 (by first | exact q648 | exact D_ | (have e_ := (Kd.S_reads' HO_6.out).1; omega))
                  obtain ⟨ve648_1, rfl, ge648_1⟩ := k43_openM hMe648
                  have hv648_1 := hcc648 1 _ rfl
                  rw [add_field _ _ 1 (by omega)] at hv648_1
                  replace hv648_1 := Option.some.inj (hv648_1.symm.trans hx648_1)
                  rw [hv648_1] at ge648_1
                  have HL648_1 := Aside0.mk (show Kd.R (Kd.int .i64) 3 _ _ _ _ ((rd_T43 t642 x10_3).f1) from ge648_1)
                  clear hv648_1 ge648_1
                  clear hcc648 hce648
                  have HR648_1 := Aside0.mk hi648_1
                  have HC648_1 := Aside0.mk hl648_1
                  clear hi648_1 hl648_1
                  replace p648 := eq_true p648
                  replace q648 := eq_true q648
                  have p652 : 0 ≤ (x10_3 : Int) := D_
                  have q652 : x10_3 < (t642.length : Int) := D_
                  obtain ⟨ad652, A652_1, c652_1, e652, hx652_0, hx652_1, hl652_1, hi652_1⟩ := at_T43 (Kd.S_reads' HO_6.out).2.2 x10_3 p652 q652
                  obtain rfl : ad648 = ad652 := (by injection e652)
                  obtain ⟨ce652, hce652, hMe652, hcc652⟩ := Kd.S_get HO_6.out z43 x10_3 p652 (by first | exact q652 | exact D_ | (have e_ := (Kd.S_reads' HO_6.out).1; omega))
                  obtain ⟨ve652_1, rfl, ge652_1⟩ := k43_openM hMe652
                  have hv652_1 := hcc652 1 _ rfl
                  rw [add_field _ _ 1 (by omega)] at hv652_1
                  replace hv652_1 := Option.some.inj (hv652_1.symm.trans hx652_1)
                  rw [hv652_1] at ge652_1
                  have HL652_1 := Aside0.mk (show Kd.R (Kd.int .i64) 3 _ _ _ _ ((rd_T43 t642 x10_3).f1) from ge652_1)
                  clear hv652_1 ge652_1
                  clear hcc652 hce652
                  have HR652_1 := Aside0.mk hi652_1
                  have HC652_1 := Aside0.mk hl652_1
                  clear hi652_1 hl652_1
                  replace p652 := eq_true p652
                  replace q652 := eq_true q652
                  have ea_ := Option.some.inj (hx648_1.symm.trans hx652_1)
                  injection ea_ with ea_ en_ ec_
                  subst ea_
                  subst ec_
                  clear en_
                  have p653 : 0 ≤ (x8_2 : Int) := D_
                  have q653 : x8_2 < (t645.length : Int) := D_
                  obtain ⟨ad653, e653, hx653_0, hx653_1⟩ := at_T48 (Kd.R_reads' HO_7.out).2.2 x8_2 p653 q653
                  cases e653
                  replace p653 := eq_true p653
                  replace q653 := eq_true q653
                  go_wp2
                  repeat (go_quiet (fail); try go_wp2)
                  go_roundg k4
                  case measure => have := HK1.out; have := HK2.out; have := HK3.out; have := HK4.out; omega
                  case rel => exact ⟨(x11_4), (wrap64 (x10_3 + 1)), (by first | rfl | exact congrArg (fun b => Ending.returned (Value.bool b)) HR_.out | (simp; done) | (simp [*]; done)), (by first | rfl | exact congrArg (fun b => Ending.returned (Value.bool b)) HR_.out | (simp; done) | (simp [*]; done)), H', ⟨by have := HK1.out; have := HK2.out; have := HK3.out; have := HK4.out; omega⟩, ⟨by exact SM_ HO_6.out⟩, ⟨by exact RM_ HO_7.out⟩, ⟨by exact SM_ HO_642000.out⟩, ⟨by exact SM_ HO_642001.out⟩, ⟨by exact KX_ BK641.out⟩, ⟨B1_⟩⟩
                 rw [if_neg c36] at H
                 have c36b0 : (((rd_T43 t642 x10_3).f0) == ((rd_T48 t645 x8_2).f1)) = false := beq_eq_false_iff_ne.mpr c36
                 have c36b1 : (((rd_T43 t642 x10_3).f0) != ((rd_T48 t645 x8_2).f1)) = true := bne_iff_ne.mpr c36
                 have H' := Aside0.mk H
                 clear H
                 have p648 : 0 ≤ (x10_3 : Int) := D_
                 have q648 : x10_3 < (t642.length : Int) := D_
                 obtain ⟨ad648, A648_1, c648_1, e648, hx648_0, hx648_1, hl648_1, hi648_1⟩ := at_T43 (Kd.S_reads' HO_6.out).2.2 x10_3 p648 q648
                 cases e648
                 obtain ⟨ce648, hce648, hMe648, hcc648⟩ := Kd.S_get HO_6.out z43 x10_3 p648 (by first | exact q648 | exact D_ | (have e_ := (Kd.S_reads' HO_6.out).1; omega))
                 obtain ⟨ve648_1, rfl, ge648_1⟩ := k43_openM hMe648
                 have hv648_1 := hcc648 1 _ rfl
                 rw [add_field _ _ 1 (by omega)] at hv648_1
                 replace hv648_1 := Option.some.inj (hv648_1.symm.trans hx648_1)
                 rw [hv648_1] at ge648_1
                 have HL648_1 := Aside0.mk (show Kd.R (Kd.int .i64) 3 _ _ _ _ ((rd_T43 t642 x10_3).f1) from ge648_1)
                 clear hv648_1 ge648_1
                 clear hcc648 hce648
                 have HR648_1 := Aside0.mk hi648_1
                 have HC648_1 := Aside0.mk hl648_1
                 clear hi648_1 hl648_1
                 replace p648 := eq_true p648
                 replace q648 := eq_true q648
                 have p652 : 0 ≤ (x10_3 : Int) := D_
                 have q652 : x10_3 < (t642.length : Int) := D_
                 obtain ⟨ad652, A652_1, c652_1, e652, hx652_0, hx652_1, hl652_1, hi652_1⟩ := at_T43 (Kd.S_reads' HO_6.out).2.2 x10_3 p652 q652
                 obtain rfl : ad648 = ad652 := (by injection e652)
                 obtain ⟨ce652, hce652, hMe652, hcc652⟩ := Kd.S_get HO_6.out z43 x10_3 p652 (by first | exact q652 | exact D_ | (have e_ := (Kd.S_reads' HO_6.out).1; omega))
                 obtain ⟨ve652_1, rfl, ge652_1⟩ := k43_openM hMe652
                 have hv652_1 := hcc652 1 _ rfl
                 rw [add_field _ _ 1 (by omega)] at hv652_1
                 replace hv652_1 := Option.some.inj (hv652_1.symm.trans hx652_1)
                 rw [hv652_1] at ge652_1
                 have HL652_1 := Aside0.mk (show Kd.R (Kd.int .i64) 3 _ _ _ _ ((rd_T43 t642 x10_3).f1) from ge652_1)
                 clear hv652_1 ge652_1
                 clear hcc652 hce652
                 have HR652_1 := Aside0.mk hi652_1
                 have HC652_1 := Aside0.mk hl652_1
                 clear hi652_1 hl652_1
                 replace p652 := eq_true p652
                 replace q652 := eq_true q652
                 have ea_ := Option.some.inj (hx648_1.symm.trans hx652_1)
                 injection ea_ with ea_ en_ ec_
                 subst ea_
                 subst ec_
                 clear en_
                 have p653 : 0 ≤ (x8_2 : Int) := D_
                 have q653 : x8_2 < (t645.length : Int) := D_
                 obtain ⟨ad653, e653, hx653_0, hx653_1⟩ := at_T48 (Kd.R_reads' HO_7.out).2.2 x8_2 p653 q653
                 cases e653
                 replace p653 := eq_true p653
                 replace q653 := eq_true q653
                 go_wp2
                 repeat (go_quiet (fail); try go_wp2)
                 go_roundg k4
                 case measure => have := HK1.out; have := HK2.out; have := HK3.out; have := HK4.out; omega
                 case rel => exact ⟨(false), (wrap64 (x10_3 + 1)), (by first | rfl | exact congrArg (fun b => Ending.returned (Value.bool b)) HR_.out | (simp; done) | (simp [*]; done)), (by first | rfl | exact congrArg (fun b => Ending.returned (Value.bool b)) HR_.out | (simp; done) | (simp [*]; done)), H', ⟨by have := HK1.out; have := HK2.out; have := HK3.out; have := HK4.out; omega⟩, ⟨by exact SM_ HO_6.out⟩, ⟨by exact RM_ HO_7.out⟩, ⟨by exact SM_ HO_642000.out⟩, ⟨by exact SM_ HO_642001.out⟩, ⟨by exact KX_ BK641.out⟩, ⟨B1_⟩⟩
                rw [if_neg c35] at H
                exact absurd H (by simp)
               rw [if_neg c34] at H
               exact absurd H (by simp)
              rw [if_neg c27] at H
              exact absurd H (by simp)
             rw [if_neg c26] at H
             exact absurd H (by simp)
          rw [if_neg c24] at H
          have c24b0 : decide (x10_3 < (t642.length : Int)) = false := decide_eq_false c24
          clear c24
          by_cases c37 : x9_3 = true
          ·subst c37
           have H1 : (locksteplaw10_LoopSelf.l1 k3 l0 t642 t645 (wrap64 (x8_2 + 1)) t634 t637) = some true := by rw [if_pos rfl] at H; exact H
           clear H
           have H := H1
           clear H1
           have H' := Aside0.mk H
           clear H
           obtain ⟨Ao38, co38, eo38⟩ := Kd.S_slice HO_6.out
           subst eo38
           go_wp2
           repeat (go_quiet (fail); try go_wp2)
           go_roundg k3
           case measure => have := HK1.out; have := HK2.out; have := HK3.out; omega
           case rel => exact ⟨(wrap64 (x8_2 + 1)), (by first | rfl | exact congrArg (fun b => Ending.returned (Value.bool b)) HR_.out | (simp; done) | (simp [*]; done)), H', ⟨by have := HK1.out; have := HK2.out; have := HK3.out; omega⟩, ⟨by exact SM_ HO_6.out⟩, ⟨by exact RM_ HO_7.out⟩, ⟨by exact SM_ HO_642000.out⟩, ⟨by exact SM_ HO_642001.out⟩, ⟨by exact KX_ BK641.out⟩, ⟨B1_⟩⟩
          replace c37 := Bool.eq_false_iff.mpr c37
          subst c37
          have H1 : (some false) = some true := by rw [if_neg (show ¬ (false = true) by decide)] at H; exact H
          clear H
          have H := H1
          clear H1
          exact absurd H (by simp)
       rw [if_neg c22] at H
       have c22b0 : decide (x8_2 < (t645.length : Int)) = false := decide_eq_false c22
       clear c22
       replace H := Option.bind_eq_some_iff.mp H
       obtain ⟨t654, A390, H⟩ := H
       replace H : (locksteplaw10_LoopSelf.l4 k2 l0 t654 0 t634 t637) = some true := H
       have A39 := Aside0.mk A390
       clear A390
       have H' := Aside0.mk H
       clear H
       obtain ⟨Ao40, co40, eo40⟩ := Kd.R_slice HO_7.out
       subst eo40
       have hcz41_0 : wr.cell? ⟨gb641, 0, none⟩ = some (.slice Ao16 t634.length co16) := (blk_cell BK641.out 0).trans rfl
       have hcz41_1 : wr.cell? ⟨gb641, 1, none⟩ = some (.slice Ao18 t637.length co18) := (blk_cell BK641.out 1).trans rfl
       have hfz41_0 := blk_frozen BK641.out 0
       have hfz41_1 := blk_frozen BK641.out 1
       go_wp2_with (first | (go_at_call 24; (with_reducible refine (graph_Order.calls k2 _ _ t634 _ _ t637 0 t654 _ ?side1 ?side2 ?side3 ?side4 A39.out).mono ?_); (case side1 => repeat (first | exact (Kd.S_reads' HO_642000.out).2.2 | (with_reducible refine Kd.C_alloc ?_ _) | (with_reducible refine Kd.C_drewN ?_ _) | (with_reducible refine Kd.C_drew ?_))); (case side2 => exact (Kd.S_reads' HO_642000.out).2.1); (case side3 => repeat (first | exact (Kd.S_reads' HO_642001.out).2.2 | (with_reducible refine Kd.C_alloc ?_ _) | (with_reducible refine Kd.C_drewN ?_ _) | (with_reducible refine Kd.C_drew ?_))); (case side4 => exact (Kd.S_reads' HO_642001.out).2.1); rintro e w42 ⟨v655, rfl, ho0, hb⟩; have n0_ := Aside0.mk (Kd.S_elder' (by exact SX_ HO_6.out) (Kd.R_base ho0) hb); have n1_ := Aside0.mk (Kd.R_below (by exact RX_ HO_7.out) hb); have n2_ := Aside0.mk (Kd.S_elder' (by exact SX_ HO_642000.out) (Kd.R_base ho0) hb); have n3_ := Aside0.mk (Kd.S_elder' (by exact SX_ HO_642001.out) (Kd.R_base ho0) hb); have n4_ := Aside0.mk (Kd.R_lower ho0 (below_size (B1_))); have n5_ := Aside0.mk (blk_below (g := gb641) (o := .cells #[.slice Ao16 t634.length co16, .slice Ao18 t637.length co18] 26 (0, 0)) (by exact KX_ BK641.out) hb); have n6_ := Aside0.mk (below_step (B1_) hb); clear HO_6; clear HO_7; clear HO_642000; clear HO_642001; clear BK641; clear HB; have HO_6 := n0_; have HO_7 := n1_; have HO_642000 := n2_; have HO_642001 := n3_; have HO656 := n4_; have BK641 := n5_; have HB := n6_; clear n0_ n1_ n2_ n3_ n4_ n5_ n6_; (try clear hb); (try clear hb2); (try clear hk); (try clear hi); (try clear ho0)))
       repeat (go_quiet (first | (go_at_call 24; (with_reducible refine (graph_Order.calls k2 _ _ t634 _ _ t637 0 t654 _ ?side1 ?side2 ?side3 ?side4 A39.out).mono ?_); (case side1 => repeat (first | exact (Kd.S_reads' HO_642000.out).2.2 | (with_reducible refine Kd.C_alloc ?_ _) | (with_reducible refine Kd.C_drewN ?_ _) | (with_reducible refine Kd.C_drew ?_))); (case side2 => exact (Kd.S_reads' HO_642000.out).2.1); (case side3 => repeat (first | exact (Kd.S_reads' HO_642001.out).2.2 | (with_reducible refine Kd.C_alloc ?_ _) | (with_reducible refine Kd.C_drewN ?_ _) | (with_reducible refine Kd.C_drew ?_))); (case side4 => exact (Kd.S_reads' HO_642001.out).2.1); rintro e w42 ⟨v655, rfl, ho0, hb⟩; have n0_ := Aside0.mk (Kd.S_elder' (by exact SX_ HO_6.out) (Kd.R_base ho0) hb); have n1_ := Aside0.mk (Kd.R_below (by exact RX_ HO_7.out) hb); have n2_ := Aside0.mk (Kd.S_elder' (by exact SX_ HO_642000.out) (Kd.R_base ho0) hb); have n3_ := Aside0.mk (Kd.S_elder' (by exact SX_ HO_642001.out) (Kd.R_base ho0) hb); have n4_ := Aside0.mk (Kd.R_lower ho0 (below_size (B1_))); have n5_ := Aside0.mk (blk_below (g := gb641) (o := .cells #[.slice Ao16 t634.length co16, .slice Ao18 t637.length co18] 26 (0, 0)) (by exact KX_ BK641.out) hb); have n6_ := Aside0.mk (below_step (B1_) hb); clear HO_6; clear HO_7; clear HO_642000; clear HO_642001; clear BK641; clear HB; have HO_6 := n0_; have HO_7 := n1_; have HO_642000 := n2_; have HO_642001 := n3_; have HO656 := n4_; have BK641 := n5_; have HB := n6_; clear n0_ n1_ n2_ n3_ n4_ n5_ n6_; (try clear hb); (try clear hb2); (try clear hk); (try clear hi); (try clear ho0))); try go_wp2_with (first | (go_at_call 24; (with_reducible refine (graph_Order.calls k2 _ _ t634 _ _ t637 0 t654 _ ?side1 ?side2 ?side3 ?side4 A39.out).mono ?_); (case side1 => repeat (first | exact (Kd.S_reads' HO_642000.out).2.2 | (with_reducible refine Kd.C_alloc ?_ _) | (with_reducible refine Kd.C_drewN ?_ _) | (with_reducible refine Kd.C_drew ?_))); (case side2 => exact (Kd.S_reads' HO_642000.out).2.1); (case side3 => repeat (first | exact (Kd.S_reads' HO_642001.out).2.2 | (with_reducible refine Kd.C_alloc ?_ _) | (with_reducible refine Kd.C_drewN ?_ _) | (with_reducible refine Kd.C_drew ?_))); (case side4 => exact (Kd.S_reads' HO_642001.out).2.1); rintro e w42 ⟨v655, rfl, ho0, hb⟩; have n0_ := Aside0.mk (Kd.S_elder' (by exact SX_ HO_6.out) (Kd.R_base ho0) hb); have n1_ := Aside0.mk (Kd.R_below (by exact RX_ HO_7.out) hb); have n2_ := Aside0.mk (Kd.S_elder' (by exact SX_ HO_642000.out) (Kd.R_base ho0) hb); have n3_ := Aside0.mk (Kd.S_elder' (by exact SX_ HO_642001.out) (Kd.R_base ho0) hb); have n4_ := Aside0.mk (Kd.R_lower ho0 (below_size (B1_))); have n5_ := Aside0.mk (blk_below (g := gb641) (o := .cells #[.slice Ao16 t634.length co16, .slice Ao18 t637.length co18] 26 (0, 0)) (by exact KX_ BK641.out) hb); have n6_ := Aside0.mk (below_step (B1_) hb); clear HO_6; clear HO_7; clear HO_642000; clear HO_642001; clear BK641; clear HB; have HO_6 := n0_; have HO_7 := n1_; have HO_642000 := n2_; have HO_642001 := n3_; have HO656 := n4_; have BK641 := n5_; have HB := n6_; clear n0_ n1_ n2_ n3_ n4_ n5_ n6_; (try clear hb); (try clear hb2); (try clear hk); (try clear hi); (try clear ho0))))
       go_loopg [14] k2 (fun kq v14 w' => ∃ (x14_3 : Int), v14 = .int .i64 x14_3 ∧ Aside0 (locksteplaw10_LoopSelf.l4 kq l0 t654 x14_3 t634 t637 = some true) ∧ Aside0 (kq ≤ k2) ∧ Aside0 (Kd.R (Kd.int .i64) 3 w' w.heap.size (fun _ => True) v655 t654) ∧ Aside0 (Kd.S (Kd.slice 3 (Kd.int .i64)) 31 w' w.heap.size (fun k_ => some k_ ≠ (v655 : Value).ownBlock ∧ some k_ ≠ ((.slice Ao18 t637.length co18) : Value).ownBlock) (.slice Ao16 t634.length co16) t634) ∧ Aside0 (Kd.S (Kd.slice 3 (Kd.int .i64)) 31 w' w.heap.size (fun k_ => some k_ ≠ (v655 : Value).ownBlock ∧ some k_ ≠ ((.slice Ao16 t634.length co16) : Value).ownBlock) (.slice Ao18 t637.length co18) t637) ∧ Aside0 (w'.heap[gb641]? = some (.cells #[(.slice Ao16 t634.length co16), (.slice Ao18 t637.length co18)] 26 (0, 0))) ∧ Aside0 (Below w.heap.size w w'))
       case atStart => exact ⟨(0), (by first | rfl | exact congrArg (fun b => Ending.returned (Value.bool b)) HR_.out | (simp; done) | (simp [*]; done)), H', ⟨Nat.le_refl _⟩, ⟨by exact RM_ HO656.out⟩, ⟨by (with_reducible repeat (first | apply Kd.S_alloc | apply Kd.S_drewN | apply Kd.S_drew)); exact Kd.S_mono HO_642000.out (fun _ hk => ⟨hk.2, hk.1⟩)⟩, ⟨by (with_reducible repeat (first | apply Kd.S_alloc | apply Kd.S_drewN | apply Kd.S_drew)); exact Kd.S_mono HO_642001.out (fun _ hk => ⟨hk.2, hk.1⟩)⟩, ⟨by exact KX_ BK641.out⟩, ⟨B1_⟩⟩
       case round =>
        clear H'
        try clear c22b0
        try clear hcz41_0
        try clear hcz41_1
        try clear hfz41_0
        try clear hfz41_1
        obtain ⟨x14_3, rfl, HA, HK3, HO_13, HO_642000, HO_642001, BK641, HB⟩ := hrel
        cases gk with
        | zero => exact absurd HA.out (by simp [locksteplaw10_LoopSelf.l4])
        | succ k3 =>
         have H := HA.out
         clear HA
         simp only [locksteplaw10_LoopSelf.l4] at H
         by_cases c43 : x14_3 < (t654.length : Int)
         ·rw [if_pos c43] at H
          have c43b0 : decide (x14_3 < (t654.length : Int)) = true := decide_eq_true c43
          clear c43
          by_cases c44 : 0 ≤ x14_3
          ·rw [if_pos c44] at H
           have c44b0 : decide (0 ≤ x14_3) = true := decide_eq_true c44
           clear c44
           have H' := Aside0.mk H
           clear H
           obtain ⟨Ao45, co45, eo45⟩ := Kd.R_slice HO_13.out
           subst eo45
           have p657 : 0 ≤ (x14_3 : Int) := D_
           have q657 : x14_3 < (t654.length : Int) := D_
           obtain ⟨ad657, e657, hx657_0⟩ := Kd.at_int (Kd.R_reads' HO_13.out).2.2 x14_3 p657 q657
           cases e657
           replace p657 := eq_true p657
           replace q657 := eq_true q657
           go_wp2
           repeat (go_quiet (fail); try go_wp2)
           go_loopg [16] k3 (fun kq v16 w' => ∃ (x16_4 : Int), v16 = .int .i64 x16_4 ∧ Aside0 (locksteplaw10_LoopSelf.l5 kq l0 t654 x14_3 (rd t654 x14_3) x16_4 t634 t637 = some true) ∧ Aside0 (kq ≤ k3) ∧ Aside0 (Kd.R (Kd.int .i64) 3 w' w.heap.size (fun _ => True) (.slice (some ad657) t654.length co45) t654) ∧ Aside0 (Kd.S (Kd.slice 3 (Kd.int .i64)) 31 w' w.heap.size (fun k_ => some k_ ≠ ((.slice (some ad657) t654.length co45) : Value).ownBlock ∧ some k_ ≠ ((.slice Ao18 t637.length co18) : Value).ownBlock) (.slice Ao16 t634.length co16) t634) ∧ Aside0 (Kd.S (Kd.slice 3 (Kd.int .i64)) 31 w' w.heap.size (fun k_ => some k_ ≠ ((.slice (some ad657) t654.length co45) : Value).ownBlock ∧ some k_ ≠ ((.slice Ao16 t634.length co16) : Value).ownBlock) (.slice Ao18 t637.length co18) t637) ∧ Aside0 (w'.heap[gb641]? = some (.cells #[(.slice Ao16 t634.length co16), (.slice Ao18 t637.length co18)] 26 (0, 0))) ∧ Aside0 (Below w.heap.size w w'))
           case atStart => exact ⟨(0), (by first | rfl | exact congrArg (fun b => Ending.returned (Value.bool b)) HR_.out | (simp; done) | (simp [*]; done)), H', ⟨Nat.le_refl _⟩, ⟨by exact RM_ HO_13.out⟩, ⟨by exact SM_ HO_642000.out⟩, ⟨by exact SM_ HO_642001.out⟩, ⟨by exact KX_ BK641.out⟩, ⟨B1_⟩⟩
           case round =>
            clear H'
            try clear c43b0
            try clear c44b0
            try clear hx657_0
            try clear p657
            try clear q657
            obtain ⟨x16_4, rfl, HA, HK4, HO_13, HO_642000, HO_642001, BK641, HB⟩ := hrel
            cases gk with
            | zero => exact absurd HA.out (by simp [locksteplaw10_LoopSelf.l5])
            | succ k4 =>
             have H := HA.out
             clear HA
             simp only [locksteplaw10_LoopSelf.l5] at H
             by_cases c46 : 0 ≤ (rd t654 x14_3)
             ·rw [if_pos c46] at H
              have c46b0 : decide (0 ≤ (rd t654 x14_3)) = true := decide_eq_true c46
              clear c46
              by_cases c47 : (rd t654 x14_3) < (l0.length : Int)
              ·rw [if_pos c47] at H
               have c47b0 : decide ((rd t654 x14_3) < (l0.length : Int)) = true := decide_eq_true c47
               clear c47
               by_cases c48 : x16_4 < ((rd_L1 l0 (rd t654 x14_3)).length : Int)
               ·rw [if_pos c48] at H
                have c48b0 : decide (x16_4 < ((rd_L1 l0 (rd t654 x14_3)).length : Int)) = true := decide_eq_true c48
                clear c48
                by_cases c49 : 0 ≤ x16_4
                ·rw [if_pos c49] at H
                 have c49b0 : decide (0 ≤ x16_4) = true := decide_eq_true c49
                 clear c49
                 by_cases c50 : (rd (rd_L1 l0 (rd t654 x14_3)) x16_4) = (rd t654 x14_3)
                 ·rw [if_pos c50] at H
                  have c50b0 : ((rd (rd_L1 l0 (rd t654 x14_3)) x16_4) == (rd t654 x14_3)) = true := beq_iff_eq.mpr c50
                  have c50b1 : ((rd (rd_L1 l0 (rd t654 x14_3)) x16_4) != (rd t654 x14_3)) = false := bne_eq_false_iff_eq.mpr c50
                  clear c50
                  replace H := Option.bind_eq_some_iff.mp H
                  obtain ⟨t661, A510, H⟩ := H
                  replace H : (if t661 < 1 then (some false) else (locksteplaw10_LoopSelf.l5 k4 l0 t654 x14_3 (rd t654 x14_3) (wrap64 (x16_4 + 1)) t634 t637)) = some true := H
                  have A51 := Aside0.mk A510
                  clear A510
                  by_cases c52 : t661 < 1
                  ·rw [if_pos c52] at H
                   have c52b0 : decide (t661 < 1) = true := decide_eq_true c52
                   clear c52
                   exact absurd H (by simp)
                  rw [if_neg c52] at H
                  have c52b0 : decide (t661 < 1) = false := decide_eq_false c52
                  clear c52
                  have H' := Aside0.mk H
                  clear H
                  have p658 : 0 ≤ ((rd t654 x14_3) : Int) := D_
                  have q658 : (rd t654 x14_3) < (l0.length : Int) := D_
                  obtain ⟨ad658, A658_0, c658_0, e658, hx658_0, hl658_0, hi658_0⟩ := at_L1 HR0.out (rd t654 x14_3) p658 q658
                  cases e658
                  replace hx658_0 := (HB.out.cell (World.block_lt_of_cell? w _ hx658_0)).trans hx658_0
                  have HR658_0 := Aside0.mk hi658_0
                  have HC658_0 := Aside0.mk hl658_0
                  clear hi658_0 hl658_0
                  replace p658 := eq_true p658
                  replace q658 := eq_true q658
                  have p659 : 0 ≤ ((rd t654 x14_3) : Int) := D_
                  have q659 : (rd t654 x14_3) < (l0.length : Int) := D_
                  obtain ⟨ad659, A659_0, c659_0, e659, hx659_0, hl659_0, hi659_0⟩ := at_L1 HR0.out (rd t654 x14_3) p659 q659
                  obtain rfl : ad658 = ad659 := (by injection e659)
                  replace hx659_0 := (HB.out.cell (World.block_lt_of_cell? w _ hx659_0)).trans hx659_0
                  have HR659_0 := Aside0.mk hi659_0
                  have HC659_0 := Aside0.mk hl659_0
                  clear hi659_0 hl659_0
                  replace p659 := eq_true p659
                  replace q659 := eq_true q659
                  have ea_ := Option.some.inj (hx658_0.symm.trans hx659_0)
                  injection ea_ with ea_ en_ ec_
                  subst ea_
                  subst ec_
                  clear en_
                  have p660 : 0 ≤ (x16_4 : Int) := D_
                  have q660 : x16_4 < ((rd_L1 l0 (rd t654 x14_3)).length : Int) := D_
                  obtain ⟨ad660, e660, hx660_0⟩ := Kd.at_int HR659_0.out x16_4 p660 q660
                  cases e660
                  replace hx660_0 := (HB.out.cell (World.block_lt_of_cell? w _ hx660_0)).trans hx660_0
                  replace p660 := eq_true p660
                  replace q660 := eq_true q660
                  have hcz53_0 : wr.cell? ⟨gb641, 0, none⟩ = some (.slice Ao16 t634.length co16) := (blk_cell BK641.out 0).trans rfl
                  have hcz53_1 : wr.cell? ⟨gb641, 1, none⟩ = some (.slice Ao18 t637.length co18) := (blk_cell BK641.out 1).trans rfl
                  have hfz53_0 := blk_frozen BK641.out 0
                  have hfz53_1 := blk_frozen BK641.out 1
                  go_wp2_with (first | (go_at_call 23; (with_reducible refine (loop_Depth.calls k4 _ _ t634 _ _ t637 (rd t654 x14_3) t661 _ ?side1 ?side2 ?side3 ?side4 A51.out).mono ?_); (case side1 => repeat (first | exact (Kd.S_reads' HO_642000.out).2.2 | (with_reducible refine Kd.C_alloc ?_ _) | (with_reducible refine Kd.C_drewN ?_ _) | (with_reducible refine Kd.C_drew ?_))); (case side2 => exact (Kd.S_reads' HO_642000.out).2.1); (case side3 => repeat (first | exact (Kd.S_reads' HO_642001.out).2.2 | (with_reducible refine Kd.C_alloc ?_ _) | (with_reducible refine Kd.C_drewN ?_ _) | (with_reducible refine Kd.C_drew ?_))); (case side4 => exact (Kd.S_reads' HO_642001.out).2.1); rintro e w54 ⟨rfl, hb⟩; have n0_ := Aside0.mk (Kd.R_below (by exact RX_ HO_13.out) hb); have n1_ := Aside0.mk (Kd.S_below (by exact SX_ HO_642000.out) hb); have n2_ := Aside0.mk (Kd.S_below (by exact SX_ HO_642001.out) hb); have n3_ := Aside0.mk (blk_below (g := gb641) (o := .cells #[.slice Ao16 t634.length co16, .slice Ao18 t637.length co18] 26 (0, 0)) (by exact KX_ BK641.out) hb); have n4_ := Aside0.mk (below_step (B1_) hb); clear HO_13; clear HO_642000; clear HO_642001; clear BK641; clear HB; have HO_13 := n0_; have HO_642000 := n1_; have HO_642001 := n2_; have BK641 := n3_; have HB := n4_; clear n0_ n1_ n2_ n3_ n4_; (try clear hb); (try clear hb2); (try clear hk); (try clear hi)))
                  repeat (go_quiet (first | (go_at_call 23; (with_reducible refine (loop_Depth.calls k4 _ _ t634 _ _ t637 (rd t654 x14_3) t661 _ ?side1 ?side2 ?side3 ?side4 A51.out).mono ?_); (case side1 => repeat (first | exact (Kd.S_reads' HO_642000.out).2.2 | (with_reducible refine Kd.C_alloc ?_ _) | (with_reducible refine Kd.C_drewN ?_ _) | (with_reducible refine Kd.C_drew ?_))); (case side2 => exact (Kd.S_reads' HO_642000.out).2.1); (case side3 => repeat (first | exact (Kd.S_reads' HO_642001.out).2.2 | (with_reducible refine Kd.C_alloc ?_ _) | (with_reducible refine Kd.C_drewN ?_ _) | (with_reducible refine Kd.C_drew ?_))); (case side4 => exact (Kd.S_reads' HO_642001.out).2.1); rintro e w54 ⟨rfl, hb⟩; have n0_ := Aside0.mk (Kd.R_below (by exact RX_ HO_13.out) hb); have n1_ := Aside0.mk (Kd.S_below (by exact SX_ HO_642000.out) hb); have n2_ := Aside0.mk (Kd.S_below (by exact SX_ HO_642001.out) hb); have n3_ := Aside0.mk (blk_below (g := gb641) (o := .cells #[.slice Ao16 t634.length co16, .slice Ao18 t637.length co18] 26 (0, 0)) (by exact KX_ BK641.out) hb); have n4_ := Aside0.mk (below_step (B1_) hb); clear HO_13; clear HO_642000; clear HO_642001; clear BK641; clear HB; have HO_13 := n0_; have HO_642000 := n1_; have HO_642001 := n2_; have BK641 := n3_; have HB := n4_; clear n0_ n1_ n2_ n3_ n4_; (try clear hb); (try clear hb2); (try clear hk); (try clear hi))); try go_wp2_with (first | (go_at_call 23; (with_reducible refine (loop_Depth.calls k4 _ _ t634 _ _ t637 (rd t654 x14_3) t661 _ ?side1 ?side2 ?side3 ?side4 A51.out).mono ?_); (case side1 => repeat (first | exact (Kd.S_reads' HO_642000.out).2.2 | (with_reducible refine Kd.C_alloc ?_ _) | (with_reducible refine Kd.C_drewN ?_ _) | (with_reducible refine Kd.C_drew ?_))); (case side2 => exact (Kd.S_reads' HO_642000.out).2.1); (case side3 => repeat (first | exact (Kd.S_reads' HO_642001.out).2.2 | (with_reducible refine Kd.C_alloc ?_ _) | (with_reducible refine Kd.C_drewN ?_ _) | (with_reducible refine Kd.C_drew ?_))); (case side4 => exact (Kd.S_reads' HO_642001.out).2.1); rintro e w54 ⟨rfl, hb⟩; have n0_ := Aside0.mk (Kd.R_below (by exact RX_ HO_13.out) hb); have n1_ := Aside0.mk (Kd.S_below (by exact SX_ HO_642000.out) hb); have n2_ := Aside0.mk (Kd.S_below (by exact SX_ HO_642001.out) hb); have n3_ := Aside0.mk (blk_below (g := gb641) (o := .cells #[.slice Ao16 t634.length co16, .slice Ao18 t637.length co18] 26 (0, 0)) (by exact KX_ BK641.out) hb); have n4_ := Aside0.mk (below_step (B1_) hb); clear HO_13; clear HO_642000; clear HO_642001; clear BK641; clear HB; have HO_13 := n0_; have HO_642000 := n1_; have HO_642001 := n2_; have BK641 := n3_; have HB := n4_; clear n0_ n1_ n2_ n3_ n4_; (try clear hb); (try clear hb2); (try clear hk); (try clear hi))))
                  go_roundg k4
                  case measure => have := HK1.out; have := HK2.out; have := HK3.out; have := HK4.out; omega
                  case rel => exact ⟨(wrap64 (x16_4 + 1)), (by first | rfl | exact congrArg (fun b => Ending.returned (Value.bool b)) HR_.out | (simp; done) | (simp [*]; done)), H', ⟨by have := HK1.out; have := HK2.out; have := HK3.out; have := HK4.out; omega⟩, ⟨by exact RM_ HO_13.out⟩, ⟨by exact SM_ HO_642000.out⟩, ⟨by exact SM_ HO_642001.out⟩, ⟨by exact KX_ BK641.out⟩, ⟨B1_⟩⟩
                 rw [if_neg c50] at H
                 have c50b0 : ((rd (rd_L1 l0 (rd t654 x14_3)) x16_4) == (rd t654 x14_3)) = false := beq_eq_false_iff_ne.mpr c50
                 have c50b1 : ((rd (rd_L1 l0 (rd t654 x14_3)) x16_4) != (rd t654 x14_3)) = true := bne_iff_ne.mpr c50
                 have H' := Aside0.mk H
                 clear H
                 have p658 : 0 ≤ ((rd t654 x14_3) : Int) := D_
                 have q658 : (rd t654 x14_3) < (l0.length : Int) := D_
                 obtain ⟨ad658, A658_0, c658_0, e658, hx658_0, hl658_0, hi658_0⟩ := at_L1 HR0.out (rd t654 x14_3) p658 q658
                 cases e658
                 replace hx658_0 := (HB.out.cell (World.block_lt_of_cell? w _ hx658_0)).trans hx658_0
                 have HR658_0 := Aside0.mk hi658_0
                 have HC658_0 := Aside0.mk hl658_0
                 clear hi658_0 hl658_0
                 replace p658 := eq_true p658
                 replace q658 := eq_true q658
                 have p659 : 0 ≤ ((rd t654 x14_3) : Int) := D_
                 have q659 : (rd t654 x14_3) < (l0.length : Int) := D_
                 obtain ⟨ad659, A659_0, c659_0, e659, hx659_0, hl659_0, hi659_0⟩ := at_L1 HR0.out (rd t654 x14_3) p659 q659
                 obtain rfl : ad658 = ad659 := (by injection e659)
                 replace hx659_0 := (HB.out.cell (World.block_lt_of_cell? w _ hx659_0)).trans hx659_0
                 have HR659_0 := Aside0.mk hi659_0
                 have HC659_0 := Aside0.mk hl659_0
                 clear hi659_0 hl659_0
                 replace p659 := eq_true p659
                 replace q659 := eq_true q659
                 have ea_ := Option.some.inj (hx658_0.symm.trans hx659_0)
                 injection ea_ with ea_ en_ ec_
                 subst ea_
                 subst ec_
                 clear en_
                 have p660 : 0 ≤ (x16_4 : Int) := D_
                 have q660 : x16_4 < ((rd_L1 l0 (rd t654 x14_3)).length : Int) := D_
                 obtain ⟨ad660, e660, hx660_0⟩ := Kd.at_int HR659_0.out x16_4 p660 q660
                 cases e660
                 replace hx660_0 := (HB.out.cell (World.block_lt_of_cell? w _ hx660_0)).trans hx660_0
                 replace p660 := eq_true p660
                 replace q660 := eq_true q660
                 go_wp2
                 repeat (go_quiet (fail); try go_wp2)
                 go_roundg k4
                 case measure => have := HK1.out; have := HK2.out; have := HK3.out; have := HK4.out; omega
                 case rel => exact ⟨(wrap64 (x16_4 + 1)), (by first | rfl | exact congrArg (fun b => Ending.returned (Value.bool b)) HR_.out | (simp; done) | (simp [*]; done)), H', ⟨by have := HK1.out; have := HK2.out; have := HK3.out; have := HK4.out; omega⟩, ⟨by exact RM_ HO_13.out⟩, ⟨by exact SM_ HO_642000.out⟩, ⟨by exact SM_ HO_642001.out⟩, ⟨by exact KX_ BK641.out⟩, ⟨B1_⟩⟩
                rw [if_neg c49] at H
                exact absurd H (by simp)
               rw [if_neg c48] at H
               have c48b0 : decide (x16_4 < ((rd_L1 l0 (rd t654 x14_3)).length : Int)) = false := decide_eq_false c48
               clear c48
               have H' := Aside0.mk H
               clear H
               have p658 : 0 ≤ ((rd t654 x14_3) : Int) := D_
               have q658 : (rd t654 x14_3) < (l0.length : Int) := D_
               obtain ⟨ad658, A658_0, c658_0, e658, hx658_0, hl658_0, hi658_0⟩ := at_L1 HR0.out (rd t654 x14_3) p658 q658
               cases e658
               replace hx658_0 := (HB.out.cell (World.block_lt_of_cell? w _ hx658_0)).trans hx658_0
               have HR658_0 := Aside0.mk hi658_0
               have HC658_0 := Aside0.mk hl658_0
               clear hi658_0 hl658_0
               replace p658 := eq_true p658
               replace q658 := eq_true q658
               go_wp2
               repeat (go_quiet (fail); try go_wp2)
               go_roundg k4
               case measure => have := HK1.out; have := HK2.out; have := HK3.out; have := HK4.out; omega
               case rel => exact ⟨(wrap64 (x14_3 + 1)), (by first | rfl | exact congrArg (fun b => Ending.returned (Value.bool b)) HR_.out | (simp; done) | (simp [*]; done)), H', ⟨by have := HK1.out; have := HK2.out; have := HK3.out; have := HK4.out; omega⟩, ⟨by exact RM_ HO_13.out⟩, ⟨by exact SM_ HO_642000.out⟩, ⟨by exact SM_ HO_642001.out⟩, ⟨by exact KX_ BK641.out⟩, ⟨B1_⟩⟩
              rw [if_neg c47] at H
              exact absurd H (by simp)
             rw [if_neg c46] at H
             exact absurd H (by simp)
          rw [if_neg c44] at H
          exact absurd H (by simp)
         rw [if_neg c43] at H
         have c43b0 : decide (x14_3 < (t654.length : Int)) = false := decide_eq_false c43
         clear c43
         clear H
         obtain ⟨Ao55, co55, eo55⟩ := Kd.R_slice HO_13.out
         subst eo55
         go_wp2
         repeat (go_quiet (fail); try go_wp2)
         go_ret
         exact ⟨by first | rfl | exact congrArg (fun b => Ending.returned (Value.bool b)) HR_.out | (simp [errW_none, errW_some] <;> rfl) | (simp [*, errW_none, errW_some] <;> rfl), B1_⟩
    rw [if_neg c11] at H
    have c11b0 : (t640 == 0) = false := beq_eq_false_iff_ne.mpr c11
    have c11b1 : (t640 != 0) = true := bne_iff_ne.mpr c11
    clear H
    go_wp2_with (first | (go_at_call 11; (with_reducible refine (graph_Make.calls k1 _ _ l0 t634 t637 t640 _ ?side1 ?side2 A10.out).mono ?_); (case side1 => exact CX_ (Kd.C_below HR0.out HB.out)); (case side2 => exact HC0.out); rintro e w56 ⟨v635, v638, rfl, ho0, ho1, hb⟩; have n0_ := Aside0.mk (Kd.S_lower ho0 (below_size (B_))); have n1_ := Aside0.mk (Kd.S_lower ho1 (below_size (B_))); have n2_ := Aside0.mk (below_step (B_) hb); clear HB; have HO636 := n0_; have HO639 := n1_; have HB := n2_; clear n0_ n1_ n2_; (try clear hb); (try clear hb2); (try clear hk); (try clear hi); (try clear ho0); (try clear ho1)) | ((with_reducible refine gate_dst (N := 4) rfl ?_); refine box_event ?hg (N := 4) ?hd (cs := #[.slice none 0 0, .slice none 0 0]) (t := 26) ?hr ?_; (case hd => rfl); (case hg => rfl); (case hr => first | (go_simp; done) | (go_simp; rfl)); intro gb641 hg w57 hbox hb; have n0_ := Aside0.mk (Kd.S_below (by exact SX_ HO636.out) hb); have n1_ := Aside0.mk (Kd.S_below (by exact SX_ HO639.out) hb); have n2_ := Aside0.mk (below_step (B_) hb); have n3_ := Aside0.mk (hbox); have n4_ := Aside0.mk ((by rw [hg]; exact (below_size (B_)) : w.heap.size ≤ gb641)); have n5_ := Aside0.mk ((by rw [hg]; exact (below_size (B_)) : w.heap.size ≤ gb641)); clear HO636; clear HO639; clear HB; have HO636 := n0_; have HO639 := n1_; have HB := n2_; have BK641 := n3_; have GW641 := n4_; have GE641 := n5_; clear n0_ n1_ n2_ n3_ n4_ n5_; clear hb hbox hg; obtain ⟨Ao58, co58, eo58⟩ := Kd.S_slice HO636.out; subst eo58; have hcz59_0 : w57.cell? ⟨gb641, 0, none⟩ = some (.slice none 0 0) := (blk_cell BK641.out 0).trans rfl; have hcz59_1 : w57.cell? ⟨gb641, 1, none⟩ = some (.slice none 0 0) := (blk_cell BK641.out 1).trans rfl; have hfz59_0 := blk_frozen BK641.out 0; have hfz59_1 := blk_frozen BK641.out 1; obtain ⟨Ao60, co60, eo60⟩ := Kd.S_slice HO639.out; subst eo60))
    repeat (go_quiet (first | (go_at_call 11; (with_reducible refine (graph_Make.calls k1 _ _ l0 t634 t637 t640 _ ?side1 ?side2 A10.out).mono ?_); (case side1 => exact CX_ (Kd.C_below HR0.out HB.out)); (case side2 => exact HC0.out); rintro e w56 ⟨v635, v638, rfl, ho0, ho1, hb⟩; have n0_ := Aside0.mk (Kd.S_lower ho0 (below_size (B_))); have n1_ := Aside0.mk (Kd.S_lower ho1 (below_size (B_))); have n2_ := Aside0.mk (below_step (B_) hb); clear HB; have HO636 := n0_; have HO639 := n1_; have HB := n2_; clear n0_ n1_ n2_; (try clear hb); (try clear hb2); (try clear hk); (try clear hi); (try clear ho0); (try clear ho1)) | ((with_reducible refine gate_dst (N := 4) rfl ?_); refine box_event ?hg (N := 4) ?hd (cs := #[.slice none 0 0, .slice none 0 0]) (t := 26) ?hr ?_; (case hd => rfl); (case hg => rfl); (case hr => first | (go_simp; done) | (go_simp; rfl)); intro gb641 hg w57 hbox hb; have n0_ := Aside0.mk (Kd.S_below (by exact SX_ HO636.out) hb); have n1_ := Aside0.mk (Kd.S_below (by exact SX_ HO639.out) hb); have n2_ := Aside0.mk (below_step (B_) hb); have n3_ := Aside0.mk (hbox); have n4_ := Aside0.mk ((by rw [hg]; exact (below_size (B_)) : w.heap.size ≤ gb641)); have n5_ := Aside0.mk ((by rw [hg]; exact (below_size (B_)) : w.heap.size ≤ gb641)); clear HO636; clear HO639; clear HB; have HO636 := n0_; have HO639 := n1_; have HB := n2_; have BK641 := n3_; have GW641 := n4_; have GE641 := n5_; clear n0_ n1_ n2_ n3_ n4_ n5_; clear hb hbox hg; obtain ⟨Ao58, co58, eo58⟩ := Kd.S_slice HO636.out; subst eo58; have hcz59_0 : w57.cell? ⟨gb641, 0, none⟩ = some (.slice none 0 0) := (blk_cell BK641.out 0).trans rfl; have hcz59_1 : w57.cell? ⟨gb641, 1, none⟩ = some (.slice none 0 0) := (blk_cell BK641.out 1).trans rfl; have hfz59_0 := blk_frozen BK641.out 0; have hfz59_1 := blk_frozen BK641.out 1; obtain ⟨Ao60, co60, eo60⟩ := Kd.S_slice HO639.out; subst eo60)); try go_wp2_with (first | (go_at_call 11; (with_reducible refine (graph_Make.calls k1 _ _ l0 t634 t637 t640 _ ?side1 ?side2 A10.out).mono ?_); (case side1 => exact CX_ (Kd.C_below HR0.out HB.out)); (case side2 => exact HC0.out); rintro e w56 ⟨v635, v638, rfl, ho0, ho1, hb⟩; have n0_ := Aside0.mk (Kd.S_lower ho0 (below_size (B_))); have n1_ := Aside0.mk (Kd.S_lower ho1 (below_size (B_))); have n2_ := Aside0.mk (below_step (B_) hb); clear HB; have HO636 := n0_; have HO639 := n1_; have HB := n2_; clear n0_ n1_ n2_; (try clear hb); (try clear hb2); (try clear hk); (try clear hi); (try clear ho0); (try clear ho1)) | ((with_reducible refine gate_dst (N := 4) rfl ?_); refine box_event ?hg (N := 4) ?hd (cs := #[.slice none 0 0, .slice none 0 0]) (t := 26) ?hr ?_; (case hd => rfl); (case hg => rfl); (case hr => first | (go_simp; done) | (go_simp; rfl)); intro gb641 hg w57 hbox hb; have n0_ := Aside0.mk (Kd.S_below (by exact SX_ HO636.out) hb); have n1_ := Aside0.mk (Kd.S_below (by exact SX_ HO639.out) hb); have n2_ := Aside0.mk (below_step (B_) hb); have n3_ := Aside0.mk (hbox); have n4_ := Aside0.mk ((by rw [hg]; exact (below_size (B_)) : w.heap.size ≤ gb641)); have n5_ := Aside0.mk ((by rw [hg]; exact (below_size (B_)) : w.heap.size ≤ gb641)); clear HO636; clear HO639; clear HB; have HO636 := n0_; have HO639 := n1_; have HB := n2_; have BK641 := n3_; have GW641 := n4_; have GE641 := n5_; clear n0_ n1_ n2_ n3_ n4_ n5_; clear hb hbox hg; obtain ⟨Ao58, co58, eo58⟩ := Kd.S_slice HO636.out; subst eo58; have hcz59_0 : w57.cell? ⟨gb641, 0, none⟩ = some (.slice none 0 0) := (blk_cell BK641.out 0).trans rfl; have hcz59_1 : w57.cell? ⟨gb641, 1, none⟩ = some (.slice none 0 0) := (blk_cell BK641.out 1).trans rfl; have hfz59_0 := blk_frozen BK641.out 0; have hfz59_1 := blk_frozen BK641.out 1; obtain ⟨Ao60, co60, eo60⟩ := Kd.S_slice HO639.out; subst eo60)))
    go_ret
    exact ⟨by first | rfl | exact congrArg (fun b => Ending.returned (Value.bool b)) HR_.out | (simp [errW_none, errW_some] <;> rfl) | (simp [*, errW_none, errW_some] <;> rfl), B1_⟩
 replace c3 := Bool.eq_false_iff.mpr c3
 subst c3
 have H1 : (some false) = some true := by rw [if_neg (show ¬ (false = true) by decide)] at H; exact H
 clear H
 have H := H1
 clear H1
 exact absurd H (by simp)

/-- THE ONE PURE STATEMENT of locksteplaw10_LoopSelf: yours. -/
def locksteplaw10_LoopSelf.Pure : Prop := ∀ (l0 : List (List Int)), RowsOk .i64 l0 → ∃ k, locksteplaw10_LoopSelf.f k l0 = some true
theorem locksteplaw10_LoopSelf.walk (P : locksteplaw10_LoopSelf.Pure) (a0 : Option Addr) (cap0 : Nat) (l0 : List (List Int)) (w : World) (w0 : Kd.C (Kd.slice 3 (Kd.int .i64)) w a0 l0.length l0) (y0 : l0.length ≤ cap0) (m0 : RowsOk .i64 l0) :
 Calls Try.prog 7 #[.slice a0 l0.length cap0] w fun e w' => e = .returned (.bool true) ∧ Below w.heap.size w w' := by
 obtain ⟨k, h⟩ := P l0 m0
 refine (locksteplaw10_LoopSelf.calls k _ _ l0 w w0 y0 h).mono ?_
 rintro e w' ⟨rfl, hd⟩
 exact ⟨rfl, hd⟩

end Go.Proofs.Ytoekeknfeinphaa.G
namespace Go.Proofs.Ytoekeknfeinphaa.GP
open Go.RowKit Go.Proofs.Ytoekeknfeinphaa.G Go.Proofs.YtoekeknfeinphaaW.PrintWords

/-- With enough rounds the answer is v. -/
def Ev {α : Type} (f : Nat → Option α) (v : α) : Prop := ∃ K, ∀ k, K ≤ k → f k = some v
theorem Ev.succ {α : Type} {f : Nat → Option α} {v : α} (h : Ev (fun k => f (k + 1)) v) : Ev f v := by
  obtain ⟨K, h⟩ := h
  refine ⟨K + 1, fun k hk => ?_⟩
  obtain ⟨m, rfl⟩ : ∃ m, k = m + 1 := ⟨k - 1, by omega⟩
  exact h m (by omega)
theorem Ev.bind {α β : Type} {g : Nat → Option α} {h : Nat → α → Option β} {a : α} {r : β} (h1 : Ev g a) (h2 : Ev (fun k => h k a) r) : Ev (fun k => (g k).bind (fun t => h k t)) r := by
  obtain ⟨K1, h1⟩ := h1
  obtain ⟨K2, h2⟩ := h2
  refine ⟨K1 + K2, fun k hk => ?_⟩
  simp only [h1 k (by omega), Option.bind_some]
  exact h2 k (by omega)
theorem Ev.pure {α : Type} {v : α} : Ev (fun _ => some v) v := ⟨0, fun _ _ => rfl⟩
theorem Ev.ifp {α : Type} {c : Prop} [Decidable c] {a b : Nat → Option α} {v : α} (h : c) (H : Ev a v) : Ev (fun k => if c then a k else b k) v := by
  simp only [if_pos h]; exact H
theorem Ev.ifn {α : Type} {c : Prop} [Decidable c] {a b : Nat → Option α} {v : α} (h : ¬ c) (H : Ev b v) : Ev (fun k => if c then a k else b k) v := by
  simp only [if_neg h]; exact H
theorem Ev.at {α : Type} {f : Nat → Option α} {v : α} (h : Ev f v) : ∃ k, f k = some v := by
  obtain ⟨K, h⟩ := h; exact ⟨K, h K (Nat.le_refl _)⟩
theorem Ev.of_eq {α : Type} {f : Nat → Option α} {v w : α} (h : Ev f v) (e : v = w) : Ev f w := e ▸ h
theorem Ev.of_at {α : Type} {f : Nat → Option α} {v : α} (m : ∀ k, LeO (f k) (f (k + 1))) {K : Nat} (h : f K = some v) : Ev f v := by
  refine ⟨K, fun k hk => ?_⟩
  obtain ⟨d, rfl⟩ : ∃ d, k = K + d := ⟨k - K, by omega⟩
  clear hk
  induction d with
  | zero => exact h
  | succ d ih => exact m _ _ ih

theorem wrap_nat {i : Nat} (h : i < 9223372036854775807) : wrap64 ((i : Int) + 1) = ((i + 1 : Nat) : Int) := by unfold wrap64; omega
theorem wrap_id {x : Int} (h : -9223372036854775808 ≤ x) (h' : x ≤ 9223372036854775807) : wrap64 x = x := by unfold wrap64; omega

/-- Numbers as blocks' numbers. -/
def up (l : List Nat) : List Int := l.map (fun n : Nat => (n : Int))
def up2 (S : List (List Nat)) : List (List Int) := S.map up
@[simp] theorem up_length (l : List Nat) : (up l).length = l.length := by simp [up]
@[simp] theorem up2_length (S : List (List Nat)) : (up2 S).length = S.length := by simp [up2]
@[simp] theorem up_nil : up [] = [] := rfl
@[simp] theorem up2_nil : up2 [] = [] := rfl
theorem up_append (a b : List Nat) : up (a ++ b) = up a ++ up b := by simp [up]
theorem up_inj {a b : List Nat} (h : up a = up b) : a = b := by
  induction a generalizing b with
  | nil => cases b with
    | nil => rfl
    | cons y b => simp [up] at h
  | cons x a ih => cases b with
    | nil => simp [up] at h
    | cons y b =>
      simp only [up, List.map_cons, List.cons.injEq] at h
      rw [show x = y by omega, ih h.2]
theorem up2_inj {a b : List (List Nat)} (h : up2 a = up2 b) : a = b := by
  induction a generalizing b with
  | nil => cases b with
    | nil => rfl
    | cons y b => simp [up2] at h
  | cons x a ih => cases b with
    | nil => simp [up2] at h
    | cons y b =>
      simp only [up2, List.map_cons, List.cons.injEq] at h
      rw [up_inj h.1, ih h.2]
theorem rd_up (l : List Nat) (i : Nat) : rd (up l) (i : Int) = ((l.getD i 0 : Nat) : Int) := by
  simp only [rd, up, Int.toNat_natCast, List.getD_eq_getElem?_getD, List.getElem?_map]
  cases l[i]? <;> rfl
theorem rdL_up (S : List (List Nat)) (i : Nat) : rd_L1 (up2 S) (i : Int) = up (S.getD i []) := by
  simp only [rd_L1, up2, Int.toNat_natCast, List.getD_eq_getElem?_getD, List.getElem?_map]
  cases S[i]? <;> rfl
theorem getD_mem {α : Type} {l : List α} {i : Nat} {d : α} (h : i < l.length) : l.getD i d ∈ l := by
  rw [List.getD_eq_getElem?_getD, List.getElem?_eq_getElem h]; exact List.getElem_mem h
theorem drop_getD {α : Type} (l : List α) (i : Nat) (d : α) (h : i < l.length) : l.drop i = l.getD i d :: l.drop (i + 1) := by
  rw [List.drop_eq_getElem_cons h, List.getD_eq_getElem?_getD, List.getElem?_eq_getElem h]; rfl
theorem take_getD {α : Type} (l : List α) (i : Nat) (d : α) (h : i < l.length) : l.take (i + 1) = l.take i ++ [l.getD i d] := by
  rw [List.take_succ_eq_append_getElem h, List.getD_eq_getElem?_getD, List.getElem?_eq_getElem h]; rfl
theorem getD_map_range {α : Type} (n : Nat) (f : Nat → α) (i : Nat) (d : α) (h : i < n) : ((List.range n).map f).getD i d = f i := by
  rw [List.getD_eq_getElem?_getD, List.getElem?_map, List.getElem?_range h]; rfl
theorem set_map_range {α : Type} (n : Nat) (f g : Nat → α) (i : Nat) (v : α) (hv : g i = v) (he : ∀ j, j ≠ i → g j = f j) : ((List.range n).map f).set i v = (List.range n).map g := by
  apply List.ext_getElem
  · simp
  · intro j h1 h2
    simp only [List.getElem_set, List.getElem_map, List.getElem_range]
    split
    · next e => rw [← e, hv]
    · next e => rw [he j (fun h => e h.symm)]
theorem self_map_range {α : Type} (l : List α) (d : α) : l = (List.range l.length).map (fun i => l.getD i d) := by
  apply List.ext_getElem
  · simp
  · intro j h1 h2
    simp only [List.getElem_map, List.getElem_range, List.getD_eq_getElem?_getD, List.getElem?_eq_getElem h1]; rfl
theorem ext_getD {α : Type} {a b : List α} (d : α) (hl : a.length = b.length) (h : ∀ i, i < a.length → a.getD i d = b.getD i d) : a = b := by
  rw [self_map_range a d, self_map_range b d, hl]
  exact List.map_congr_left (fun i hi => h i (by have := List.mem_range.mp hi; omega))

/-- Each number greater than the one ahead, and below n. -/
def rsg (n : Int) : Int → List Int → Bool
  | _, [] => true
  | last, x :: xs => if x ≤ last then false else if x ≥ n then false else rsg n x xs

def big : Nat := 9223372036854775807

theorem rising_l0 (d : Nat) : ∀ (i : Nat) (n last : Int) (l : List Int), l.length ≤ big → i ≤ l.length → l.length - i = d → Ev (fun k => graph_rising.l0 k n last l (l.length : Int) (i : Int)) (rsg n last (l.drop i)) := by
  induction d with
  | zero =>
    intro i n last l hb hi hd
    refine Ev.succ ?_; simp only [graph_rising.l0]
    rw [List.drop_of_length_le (by omega)]
    exact Ev.ifn (by omega) Ev.pure
  | succ d ih =>
    intro i n last l hb hi hd
    have h1 : i < l.length := by omega
    have hbb : big = 9223372036854775807 := rfl
    refine Ev.succ ?_; simp only [graph_rising.l0]
    refine Ev.ifp (by omega) (Ev.ifp (by omega) (Ev.ifp (by omega) ?_))
    rw [drop_getD l i 0 h1, show rd l (i : Int) = l.getD i 0 by simp [rd]]
    simp only [rsg]
    split
    · exact Ev.pure
    · split
      · exact Ev.pure
      · rw [wrap_nat (by omega)]
        exact ih (i + 1) _ _ l hb (by omega) (by omega)
theorem make1_ok (l : List Int) (n : Int) (h : l.length ≤ big) : Ev (fun k => graph_Make_1.f k l n) (!rsg n (-1) l) := by
  unfold graph_Make_1.f graph_rising.f
  exact Ev.bind (a := rsg n (-1) l) (by simpa using rising_l0 l.length 0 n (-1) l h (by omega) (by omega)) Ev.pure
theorem index_l0 (d : Nat) : ∀ (i : Nat) (n : Int) (s : List (List Int)), s.length ≤ big → (∀ l ∈ s, l.length ≤ big) → i ≤ s.length → s.length - i = d →
    ∃ v, Ev (fun k => slices_IndexFunc_int_int_graph_Make_1.l0 k s (s.length : Int) (i : Int) n) v ∧ decide (v ≥ 0) = (s.drop i).any (fun l => !rsg n (-1) l) := by
  induction d with
  | zero =>
    intro i n s hb hr hi hd
    refine ⟨-1, Ev.succ ?_, by rw [List.drop_of_length_le (by omega)]; rfl⟩
    simp only [slices_IndexFunc_int_int_graph_Make_1.l0]
    exact Ev.ifn (by omega) Ev.pure
  | succ d ih =>
    intro i n s hb hr hi hd
    have h1 : i < s.length := by omega
    have hbb : big = 9223372036854775807 := rfl
    have hrd : rd_L1 s (i : Int) = s.getD i [] := by simp [rd_L1]
    rw [drop_getD s i [] h1, List.any_cons]
    cases hv : rsg n (-1) (s.getD i []) with
    | false =>
      refine ⟨(i : Int), Ev.succ ?_, by simp⟩
      simp only [slices_IndexFunc_int_int_graph_Make_1.l0]
      refine Ev.ifp (by omega) (Ev.ifp (by omega) (Ev.ifp (by omega) ?_))
      refine Ev.bind (make1_ok _ n (by rw [hrd]; exact hr _ (getD_mem h1))) ?_
      rw [hrd, hv]
      exact Ev.ifp rfl Ev.pure
    | true =>
      obtain ⟨v, he, hd'⟩ := ih (i + 1) n s hb hr (by omega) (by omega)
      refine ⟨v, Ev.succ ?_, by simpa using hd'⟩
      simp only [slices_IndexFunc_int_int_graph_Make_1.l0]
      refine Ev.ifp (by omega) (Ev.ifp (by omega) (Ev.ifp (by omega) ?_))
      refine Ev.bind (make1_ok _ n (by rw [hrd]; exact hr _ (getD_mem h1))) ?_
      rw [hrd, hv]
      refine Ev.ifn (by decide) ?_
      rw [wrap_nat (by omega)]; exact he
theorem contains_ok (s : List (List Int)) (n : Int) (hb : s.length ≤ big) (hr : ∀ l ∈ s, l.length ≤ big) : Ev (fun k => slices_ContainsFunc_int_int_graph_Make_1.f k s n) (s.any (fun l => !rsg n (-1) l)) := by
  obtain ⟨v, he, hd⟩ := index_l0 s.length 0 n s hb hr (by omega) (by omega)
  unfold slices_ContainsFunc_int_int_graph_Make_1.f slices_IndexFunc_int_int_graph_Make_1.f
  have hd' : decide (v ≥ 0) = s.any (fun l => !rsg n (-1) l) := by simpa using hd
  exact (Ev.bind (h := fun _ t => some (decide (t ≥ 0))) (by simpa using he) Ev.pure).of_eq hd'

/-- May these lists be a graph's ways on? -/
def goodb (s : List (List Int)) : Bool := decide (1 ≤ s.length) && (decide (s.length ≤ 64) && s.all (rsg (s.length : Int) (-1)))
/-- A graph's ways on. -/
structure Gr (S : List (List Nat)) : Prop where
  pos : 0 < S.length
  le : S.length ≤ 64
  row : ∀ i, i < S.length → (S.getD i []).Pairwise (· < ·) ∧ ∀ y ∈ S.getD i [], y < S.length
/-- Where blocks come from. -/
def pr (S : List (List Nat)) : List (List Nat) := (List.range S.length).map fun j => (List.range S.length).filter fun i => decide (j ∈ S.getD i [])

theorem rsg_spec : ∀ (l : List Int) (n last : Int), rsg n last l = true → l.Pairwise (· < ·) ∧ (∀ x ∈ l, last < x ∧ x < n) := by
  intro l
  induction l with
  | nil => intro n last _; simp
  | cons x l ih =>
    intro n last h
    simp only [rsg] at h
    split at h
    · cases h
    · split at h
      · cases h
      · obtain ⟨h1, h2⟩ := ih n x h
        refine ⟨List.pairwise_cons.mpr ⟨fun y hy => (h2 y hy).1, h1⟩, fun y hy => ?_⟩
        rcases List.mem_cons.mp hy with rfl | hy
        · omega
        · have := h2 y hy; omega
theorem rsg_of : ∀ (l : List Int) (n last : Int), l.Pairwise (· < ·) → (∀ x ∈ l, last < x ∧ x < n) → rsg n last l = true := by
  intro l
  induction l with
  | nil => intro n last _ _; rfl
  | cons x l ih =>
    intro n last h h2
    have h3 := h2 x (List.mem_cons_self ..)
    simp only [rsg]
    rw [if_neg (by omega), if_neg (by omega)]
    obtain ⟨h4, h5⟩ := List.pairwise_cons.mp h
    exact ih n x h5 (fun y hy => ⟨h4 y hy, (h2 y (List.mem_cons_of_mem _ hy)).2⟩)
theorem good_gr {s : List (List Int)} (h : goodb s = true) : ∃ S, Gr S ∧ s = up2 S := by
  simp only [goodb, Bool.and_eq_true, decide_eq_true_eq, List.all_eq_true] at h
  obtain ⟨h1, h2, h3⟩ := h
  have hr : ∀ l ∈ s, up (l.map Int.toNat) = l := by
    intro l hl
    have := rsg_spec l _ _ (h3 l hl)
    simp only [up, List.map_map]
    conv => rhs; rw [← List.map_id l]
    exact List.map_congr_left (fun x hx => by have := (this.2 x hx).1; simp; omega)
  have hs : up2 (s.map (fun l => l.map Int.toNat)) = s := by
    simp only [up2, List.map_map]
    conv => rhs; rw [← List.map_id s]
    exact List.map_congr_left (fun l hl => hr l hl)
  refine ⟨s.map (fun l => l.map Int.toNat), ⟨by simp; omega, by simpa using h2, fun i hi => ?_⟩, hs.symm⟩
  have hi' : i < s.length := by simpa using hi
  have hl := getD_mem (d := []) hi'
  have hq : (s.map (fun l => l.map Int.toNat)).getD i [] = (s.getD i []).map Int.toNat := by
    simp only [List.getD_eq_getElem?_getD, List.getElem?_map, List.getElem?_eq_getElem hi']; rfl
  have h4 := rsg_spec _ _ _ (h3 _ hl)
  rw [hq]
  refine ⟨List.pairwise_map.mpr (h4.1.imp_of_mem (fun ha hb hab => by have := h4.2 _ ha; have := h4.2 _ hb; omega)), fun y hy => ?_⟩
  obtain ⟨x, hx, rfl⟩ := List.mem_map.mp hy
  have := h4.2 x hx
  simp; omega
theorem gr_good {S : List (List Nat)} (h : Gr S) : goodb (up2 S) = true := by
  simp only [goodb, Bool.and_eq_true, decide_eq_true_eq, List.all_eq_true, up2_length]
  refine ⟨h.pos, h.le, fun l hl => ?_⟩
  obtain ⟨r, hr, rfl⟩ := List.mem_map.mp hl
  obtain ⟨i, hi, hri⟩ := List.getElem_of_mem hr
  have h2 := h.row i hi
  rw [List.getD_eq_getElem?_getD, List.getElem?_eq_getElem hi, hri] at h2
  simp only [Option.getD_some] at h2
  refine rsg_of _ _ _ (List.pairwise_map.mpr (h2.1.imp (fun h => by omega))) (fun x hx => ?_)
  obtain ⟨y, hy, rfl⟩ := List.mem_map.mp hx
  have := h2.2 y hy; omega

theorem pw_len (n : Nat) : ∀ (l : List Nat) (lo : Nat), l.Pairwise (· < ·) → (∀ x ∈ l, lo ≤ x ∧ x < n) → lo ≤ n → l.length + lo ≤ n := by
  intro l
  induction l with
  | nil => intro lo _ _ h; simpa using h
  | cons x l ih =>
    intro lo h h2 hlo
    obtain ⟨h4, h5⟩ := List.pairwise_cons.mp h
    have h3 := h2 x (List.mem_cons_self ..)
    have := ih (x + 1) h5 (fun y hy => ⟨h4 y hy, (h2 y (List.mem_cons_of_mem _ hy)).2⟩) (by omega)
    simp only [List.length_cons]; omega
theorem gr_len {S : List (List Nat)} (h : Gr S) {i : Nat} (hi : i < S.length) : (S.getD i []).length ≤ 64 := by
  have := pw_len S.length _ 0 (h.row i hi).1 (fun x hx => ⟨Nat.zero_le _, (h.row i hi).2 x hx⟩) (Nat.zero_le _)
  have := h.le; omega
/-! #### the ways back -/
theorem gr_nodup {S : List (List Nat)} (h : Gr S) {i : Nat} (hi : i < S.length) : (S.getD i []).Nodup := (h.row i hi).1.imp (fun h => Nat.ne_of_lt h)
/-- The ways back when i rows are gone through, and m of row i. -/
def prAt (S : List (List Nat)) (i m j : Nat) : List Nat := (List.range i).filter (fun i => decide (j ∈ S.getD i [])) ++ if j ∈ (S.getD i []).take m then [i] else []
def prI (S : List (List Nat)) (i m : Nat) : List (List Int) := (List.range S.length).map fun j => up (prAt S i m j)
theorem prI_succ (S : List (List Nat)) (i : Nat) : prI S i (S.getD i []).length = prI S (i + 1) 0 := by
  unfold prI
  refine List.map_congr_left (fun j _ => ?_)
  simp only [prAt, List.take_length, List.take_zero, List.range_succ, List.filter_append, List.not_mem_nil, if_false, List.append_nil]
  congr 2
  by_cases hj : j ∈ S.getD i []
  · rw [if_pos hj, List.filter_cons_of_pos (by simpa using hj)]; rfl
  · rw [if_neg hj, List.filter_cons_of_neg (by simpa using hj)]; rfl
theorem preds_end {S : List (List Nat)} : prI S S.length 0 = up2 (pr S) := by
  simp only [prI, pr, up2, List.map_map]
  refine List.map_congr_left (fun j _ => ?_)
  simp [prAt]
theorem preds_l1 {S : List (List Nat)} (h : Gr S) (i : Nat) (hi : i < S.length) (v : List (List Int)) (H : Ev (fun k => graph_preds.l0 k (prI S (i + 1) 0) (up2 S) (S.length : Int) ((i + 1 : Nat) : Int)) v) (d : Nat) :
    ∀ m, m ≤ (S.getD i []).length → (S.getD i []).length - m = d → Ev (fun k => graph_preds.l1 k (prI S i m) (i : Int) (up2 S) (S.length : Int) (i : Int) (up (S.getD i [])) ((S.getD i []).length : Int) (m : Int)) v := by
  have hle := h.le
  have hlen := gr_len h hi
  induction d with
  | zero =>
    intro m hm hd
    refine Ev.succ ?_; simp only [graph_preds.l1]
    refine Ev.ifn (by omega) ?_
    rw [wrap_nat (by omega), show m = (S.getD i []).length by omega, prI_succ]
    exact H
  | succ d ih =>
    intro m hm hd
    have h1 : m < (S.getD i []).length := by omega
    refine Ev.succ ?_; simp only [graph_preds.l1]
    rw [rd_up]
    have hy := (h.row i hi).2 _ (getD_mem (d := 0) h1)
    have hyn : (S.getD i []).getD m 0 ∉ (S.getD i []).take m := by
      intro hc
      have h3 : (S.getD i []).Nodup := gr_nodup h hi
      have h2 := take_getD _ m 0 h1
      have h4 : ((S.getD i []).take (m + 1)).Nodup := h3.sublist (List.take_sublist _ _)
      rw [h2, List.nodup_append] at h4
      exact h4.2.2 _ hc _ (List.mem_singleton.mpr rfl) rfl
    generalize hyv : (S.getD i []).getD m 0 = y at hy hyn
    have hrow : rd_L1 (prI S i m) (y : Int) = up (prAt S i m y) := by
      simp only [rd_L1, Int.toNat_natCast, prI]
      exact getD_map_range _ _ _ _ hy
    have hpl : (prAt S i m y).length ≤ 65 := by
      simp only [prAt, List.length_append]
      have := List.length_filter_le (fun i => decide (y ∈ S.getD i [])) (List.range i)
      simp only [List.length_range] at this
      split
      · rw [List.length_singleton]; omega
      · rw [List.length_nil]; omega
    refine Ev.ifp (by omega) (Ev.ifp (by omega) (Ev.ifp (by rw [up_length]; omega) (Ev.ifp (by omega) (Ev.ifp (by simp [prI]; omega) ?_))))
    rw [hrow]
    refine Ev.ifp (by rw [up_length]; omega) ?_
    have hset : (prI S i m).set y (up (prAt S i m y) ++ [(i : Int)]) = prI S i (m + 1) := by
      refine set_map_range _ _ _ _ _ ?_ (fun j hj => ?_)
      · simp only [prAt]
        rw [take_getD _ m 0 h1, hyv, if_neg hyn, if_pos (by simp)]
        simp [up]
      · simp only [prAt]
        rw [take_getD _ m 0 h1, hyv]
        congr 2
        simp [hj]
    rw [Int.toNat_natCast, hset, wrap_nat (by omega)]
    exact ih (m + 1) (by omega) (by omega)
theorem preds_l0 {S : List (List Nat)} (h : Gr S) (d : Nat) : ∀ i, i ≤ S.length → S.length - i = d → Ev (fun k => graph_preds.l0 k (prI S i 0) (up2 S) (S.length : Int) (i : Int)) (up2 (pr S)) := by
  have hle := h.le
  induction d with
  | zero =>
    intro i hi hd
    refine Ev.succ ?_; simp only [graph_preds.l0]
    refine Ev.ifn (by omega) ?_
    rw [show i = S.length by omega, preds_end]
    exact Ev.pure
  | succ d ih =>
    intro i hi hd
    refine Ev.succ ?_; simp only [graph_preds.l0]
    refine Ev.ifp (by omega) (Ev.ifp (by omega) (Ev.ifp (by simp; omega) ?_))
    rw [rdL_up, up_length]
    exact preds_l1 h i (by omega) _ (ih (i + 1) (by omega) (by omega)) _ 0 (by omega) rfl
theorem preds_ok {S : List (List Nat)} (h : Gr S) : Ev (fun k => graph_preds.f k (up2 S)) (up2 (pr S)) := by
  have hle := h.le
  unfold graph_preds.f
  refine Ev.ifp (by omega) (Ev.ifp (by simp; omega) ?_)
  have h0 := preds_l0 h S.length 0 (by omega) (by omega)
  have e : List.replicate (((up2 S).length : Int)).toNat ([] : List Int) = prI S 0 0 := by
    simp only [up2_length, Int.toNat_natCast, prI]
    apply List.ext_getElem
    · simp
    · intro j h1 h2; simp [prAt]
  rw [e, up2_length]
  exact h0

/-! #### graph.Make -/
theorem clone_ok (l : List Int) (h : l.length < 17592186044416) : slices_Clone_int_int.f l = some l := by
  simp [slices_Clone_int_int.f, h]
theorem make_l0 {S : List (List Nat)} (h : Gr S) (d : Nat) : ∀ i, i ≤ S.length → S.length - i = d → Ev (fun k => graph_Make.l0 k (up2 (S.take i)) (up2 S) (S.length : Int) (i : Int)) (up2 S, up2 (pr S), 0) := by
  have hle := h.le
  induction d with
  | zero =>
    intro i hi hd
    refine Ev.succ ?_; simp only [graph_Make.l0]
    refine Ev.ifn (by omega) ?_
    rw [List.take_of_length_le (by omega)]
    exact Ev.bind (preds_ok h) Ev.pure
  | succ d ih =>
    intro i hi hd
    have h1 : i < S.length := by omega
    have hlen := gr_len h h1
    refine Ev.succ ?_; simp only [graph_Make.l0]
    refine Ev.ifp (by omega) (Ev.ifp (by omega) (Ev.ifp (by simp; omega) ?_))
    rw [rdL_up, clone_ok _ (by rw [up_length]; omega)]
    simp only [Option.bind_some]
    refine Ev.ifp (by simp; omega) ?_
    have e : up2 (S.take i) ++ [up (S.getD i [])] = up2 (S.take (i + 1)) := by rw [take_getD S i [] h1]; simp [up2]
    rw [e, wrap_nat (by omega)]
    exact ih (i + 1) (by omega) (by omega)
theorem make_ok {S : List (List Nat)} (h : Gr S) : Ev (fun k => graph_Make.f k (up2 S)) (up2 S, up2 (pr S), 0) := by
  have hle := h.le; have hpos := h.pos
  have hg := gr_good h
  simp only [goodb, Bool.and_eq_true, decide_eq_true_eq, List.all_eq_true] at hg
  unfold graph_Make.f
  refine Ev.ifn (by simp; omega) (Ev.ifn (by simp; omega) ?_)
  have hrow : ∀ l ∈ up2 S, l.length ≤ big := by
    intro l hl
    obtain ⟨r, hr, rfl⟩ := List.mem_map.mp hl
    obtain ⟨i, hi, hri⟩ := List.getElem_of_mem hr
    have hsub := gr_len h hi
    rw [List.getD_eq_getElem?_getD, List.getElem?_eq_getElem hi, hri, Option.getD_some] at hsub
    rw [up_length]; simp only [big]; omega
  refine Ev.bind (contains_ok (up2 S) _ (by simp [big]; omega) hrow) ?_
  have e : (up2 S).any (fun l => !rsg ((up2 S).length : Int) (-1) l) = false := by
    rw [List.any_eq_false]
    intro l hl; rw [hg.2.2 l hl]; decide
  rw [e]
  refine Ev.succ ?_; simp only [graph_Make.j0]
  refine Ev.ifn (by decide) (Ev.ifp (by omega) (Ev.ifp (by simp; omega) ?_))
  simpa using make_l0 h S.length 0 (by omega) (by omega)
theorem make_bad {s : List (List Int)} (hb : s.length ≤ big) (hr : ∀ l ∈ s, l.length ≤ big) (h : goodb s = false) : Ev (fun k => graph_Make.f k s) ([], [], 5) := by
  unfold graph_Make.f
  have hj : ∀ n, Ev (fun k => graph_Make.j0 k s true n) (([] : List (List Int)), ([] : List (List Int)), (5 : Int)) := by
    intro n; refine Ev.succ ?_; simp only [graph_Make.j0]; exact Ev.ifp trivial Ev.pure
  by_cases h1 : (s.length : Int) < 1
  · exact Ev.ifp h1 (hj _)
  · refine Ev.ifn h1 ?_
    by_cases h2 : (s.length : Int) > 64
    · exact Ev.ifp h2 (hj _)
    · refine Ev.ifn h2 (Ev.bind (contains_ok s _ hb hr) ?_)
      have e : s.any (fun l => !rsg (s.length : Int) (-1) l) = true := by
        simp only [goodb] at h
        rw [decide_eq_true (by omega), decide_eq_true (by omega), Bool.true_and, Bool.true_and] at h
        rw [← Bool.not_eq_false, List.any_eq_false]
        intro hc
        have : s.all (rsg (s.length : Int) (-1)) = true := List.all_eq_true.mpr (fun l hl => by have := hc l hl; simpa using this)
        rw [h] at this; cases this
      rw [e]; exact hj _

theorem equal_l0 (d : Nat) : ∀ (i : Nat) (a b : List Int), a.length = b.length → a.length ≤ big → i ≤ a.length → a.length - i = d → Ev (fun k => slices_Equal_int_int.l0 k a b (a.length : Int) (i : Int)) (decide (a.drop i = b.drop i)) := by
  induction d with
  | zero =>
    intro i a b hl hb hi hd
    refine Ev.succ ?_; simp only [slices_Equal_int_int.l0]
    refine Ev.ifn (by omega) ?_
    rw [List.drop_of_length_le (by omega), List.drop_of_length_le (by omega)]
    exact Ev.pure.of_eq (by simp)
  | succ d ih =>
    intro i a b hl hb hi hd
    have hbb : big = 9223372036854775807 := rfl
    refine Ev.succ ?_; simp only [slices_Equal_int_int.l0]
    refine Ev.ifp (by omega) (Ev.ifp (by omega) (Ev.ifp (by omega) (Ev.ifp (by omega) ?_)))
    rw [show rd a (i : Int) = a.getD i 0 by simp [rd], show rd b (i : Int) = b.getD i 0 by simp [rd]]
    rw [drop_getD a i 0 (by omega), drop_getD b i 0 (by omega)]
    by_cases h : a.getD i 0 = b.getD i 0
    · refine Ev.ifp h ?_
      rw [wrap_nat (by omega)]
      exact (ih (i + 1) a b hl hb (by omega) (by omega)).of_eq (by rw [h]; simp)
    · refine Ev.ifn h (Ev.pure.of_eq ?_)
      rw [decide_eq_false]
      intro he; injection he with h1 _; exact h h1
theorem equal_ok (a b : List Int) (hb : a.length ≤ big) : Ev (fun k => slices_Equal_int_int.f k a b) (decide (a = b)) := by
  unfold slices_Equal_int_int.f
  by_cases h : a.length = b.length
  · refine Ev.ifp (by omega) ?_
    simpa using equal_l0 a.length 0 a b h hb (by omega) (by omega)
  · refine Ev.ifn (by omega) (Ev.pure.of_eq ?_)
    rw [decide_eq_false]
    intro he; exact h (by rw [he])
theorem eqf_l0 (d : Nat) : ∀ (i : Nat) (a b : List (List Int)), a.length = b.length → a.length ≤ big → (∀ l ∈ a, l.length ≤ big) → i ≤ a.length → a.length - i = d → Ev (fun k => slices_EqualFunc_int_int_int_int_slices_Equal_int_int.l0 k b a (a.length : Int) (i : Int)) (decide (a.drop i = b.drop i)) := by
  induction d with
  | zero =>
    intro i a b hl hb hr hi hd
    refine Ev.succ ?_; simp only [slices_EqualFunc_int_int_int_int_slices_Equal_int_int.l0]
    refine Ev.ifn (by omega) ?_
    rw [List.drop_of_length_le (by omega), List.drop_of_length_le (by omega)]
    exact Ev.pure.of_eq (by simp)
  | succ d ih =>
    intro i a b hl hb hr hi hd
    have hbb : big = 9223372036854775807 := rfl
    refine Ev.succ ?_; simp only [slices_EqualFunc_int_int_int_int_slices_Equal_int_int.l0]
    refine Ev.ifp (by omega) (Ev.ifp (by omega) (Ev.ifp (by omega) (Ev.ifp (by omega) ?_)))
    rw [show rd_L1 a (i : Int) = a.getD i [] by simp [rd_L1], show rd_L1 b (i : Int) = b.getD i [] by simp [rd_L1]]
    refine Ev.bind (equal_ok _ _ (hr _ (getD_mem (by omega)))) ?_
    rw [drop_getD a i [] (by omega), drop_getD b i [] (by omega)]
    by_cases h : a.getD i [] = b.getD i []
    · refine Ev.ifp (by rw [decide_eq_true h]) ?_
      rw [wrap_nat (by omega)]
      exact (ih (i + 1) a b hl hb hr (by omega) (by omega)).of_eq (by rw [h]; simp)
    · refine Ev.ifn (by rw [decide_eq_false h]; decide) (Ev.pure.of_eq ?_)
      rw [decide_eq_false]
      intro he; injection he with h1 _; exact h h1
theorem eqf_ok (a b : List (List Int)) (hb : a.length ≤ big) (hr : ∀ l ∈ a, l.length ≤ big) : Ev (fun k => slices_EqualFunc_int_int_int_int_slices_Equal_int_int.f k a b) (decide (a = b)) := by
  unfold slices_EqualFunc_int_int_int_int_slices_Equal_int_int.f
  by_cases h : a.length = b.length
  · refine Ev.ifp (by omega) ?_
    simpa using eqf_l0 a.length 0 a b h hb hr (by omega) (by omega)
  · refine Ev.ifn (by omega) (Ev.pure.of_eq ?_)
    rw [decide_eq_false]
    intro he; exact h (by rw [he])

theorem pr_length (S : List (List Nat)) : (pr S).length = S.length := by simp [pr]
theorem pr_getD {S : List (List Nat)} {j : Nat} (hj : j < S.length) : (pr S).getD j [] = (List.range S.length).filter fun i => decide (j ∈ S.getD i []) := getD_map_range _ _ _ _ hj
theorem mem_pr {S : List (List Nat)} {i j : Nat} (hj : j < S.length) : i ∈ (pr S).getD j [] ↔ i < S.length ∧ j ∈ S.getD i [] := by
  rw [pr_getD hj]; simp
theorem gr_pr {S : List (List Nat)} (h : Gr S) : Gr (pr S) := by
  refine ⟨by rw [pr_length]; exact h.pos, by rw [pr_length]; exact h.le, fun i hi => ?_⟩
  rw [pr_length] at hi ⊢
  refine ⟨?_, fun y hy => ((mem_pr hi).mp hy).1⟩
  rw [pr_getD hi]
  exact List.pairwise_lt_range.filter _
theorem sorted_ext : ∀ (a b : List Nat), a.Pairwise (· < ·) → b.Pairwise (· < ·) → (∀ x, x ∈ a ↔ x ∈ b) → a = b := by
  intro a
  induction a with
  | nil =>
    intro b _ _ h
    cases b with
    | nil => rfl
    | cons y b => exact absurd ((h y).mpr (List.mem_cons_self ..)) (by simp)
  | cons x a ih =>
    intro b ha hb h
    cases b with
    | nil => exact absurd ((h x).mp (List.mem_cons_self ..)) (by simp)
    | cons y b =>
      obtain ⟨ha1, ha2⟩ := List.pairwise_cons.mp ha
      obtain ⟨hb1, hb2⟩ := List.pairwise_cons.mp hb
      have e : x = y := by
        rcases List.mem_cons.mp ((h x).mp (List.mem_cons_self ..)) with e | e
        · exact e
        · rcases List.mem_cons.mp ((h y).mpr (List.mem_cons_self ..)) with e' | e'
          · exact e'.symm
          · have := hb1 x e; have := ha1 y e'; omega
      subst e
      rw [ih b ha2 hb2 (fun z => ⟨fun hz => ?_, fun hz => ?_⟩)]
      · rcases List.mem_cons.mp ((h z).mp (List.mem_cons_of_mem _ hz)) with e | e
        · have := ha1 z hz; omega
        · exact e
      · rcases List.mem_cons.mp ((h z).mpr (List.mem_cons_of_mem _ hz)) with e | e
        · have := hb1 z hz; omega
        · exact e
theorem pr_pr {S : List (List Nat)} (h : Gr S) : pr (pr S) = S := by
  have h1 := gr_pr h; have h2 := gr_pr h1
  refine ext_getD [] (by rw [pr_length, pr_length]) (fun i hi => ?_)
  rw [pr_length, pr_length] at hi
  refine sorted_ext _ _ (h2.row i (by rw [pr_length, pr_length]; exact hi)).1 (h.row i hi).1 (fun x => ?_)
  rw [mem_pr (by rw [pr_length]; exact hi), pr_length]
  constructor
  · rintro ⟨hx, hm⟩; exact ((mem_pr hx).mp hm).2
  · intro hm
    have hx := (h.row i hi).2 x hm
    exact ⟨hx, (mem_pr hx).mpr ⟨hi, hm⟩⟩
theorem gr_rows {S : List (List Nat)} (h : Gr S) : ∀ l ∈ up2 S, l.length ≤ 64 := by
  intro l hl
  obtain ⟨r, hr, rfl⟩ := List.mem_map.mp hl
  obtain ⟨i, hi, hri⟩ := List.getElem_of_mem hr
  have hsub := gr_len h hi
  rw [List.getD_eq_getElem?_getD, List.getElem?_eq_getElem hi, hri, Option.getD_some] at hsub
  rw [up_length]; exact hsub

theorem may_ok {S : List (List Nat)} (h : Gr S) (p : List (List Int)) : Ev (fun k => graph_May.f k (up2 S) p) (decide (up2 (pr S) = p)) := by
  unfold graph_May.f
  refine Ev.bind (make_ok h) ?_
  refine Ev.ifp rfl ?_
  have hle := (gr_pr h).le
  exact Ev.bind (eqf_ok _ _ (by rw [up2_length]; simp only [big]; omega) (fun l hl => by have := gr_rows (gr_pr h) l hl; simp only [big]; omega)) Ev.pure
theorem may_bad {s : List (List Int)} (hb : s.length ≤ big) (hr : ∀ l ∈ s, l.length ≤ big) (h : goodb s = false) (p : List (List Int)) : Ev (fun k => graph_May.f k s p) false := by
  unfold graph_May.f
  refine Ev.bind (make_bad hb hr h) ?_
  exact Ev.ifn (by decide) Ev.pure
end Go.Proofs.Ytoekeknfeinphaa.GP
namespace Go.Proofs.Ytoekeknfeinphaa.GP

abbrev Sn := Nat → Bool
def upd (s : Sn) (x : Nat) : Sn := fun z => if z = x then true else s z
theorem upd_self (s : Sn) (x : Nat) : upd s x x = true := by simp [upd]
theorem upd_true {s : Sn} {x z : Nat} : upd s x z = true ↔ z = x ∨ s z = true := by unfold upd; split <;> simp_all
/-- How many of the first n are not seen. -/
def cnt (n : Nat) (s : Sn) : Nat := ((List.range n).filter (fun z => !s z)).length
theorem filter_le {α : Type} (l : List α) (p q : α → Bool) (h : ∀ x ∈ l, p x = true → q x = true) : (l.filter p).length ≤ (l.filter q).length := by
  induction l with
  | nil => simp
  | cons x l ih =>
    have h1 := ih (fun y hy => h y (List.mem_cons_of_mem _ hy))
    have h2 := h x (List.mem_cons_self ..)
    cases hp : p x with
    | false => rw [List.filter_cons_of_neg (by simp [hp])]; by_cases hq : q x = true
               · rw [List.filter_cons_of_pos hq, List.length_cons]; omega
               · rw [List.filter_cons_of_neg hq]; exact h1
    | true => rw [List.filter_cons_of_pos hp, List.filter_cons_of_pos (h2 hp), List.length_cons, List.length_cons]; omega
theorem filter_lt {α : Type} (l : List α) (p q : α → Bool) (h : ∀ x ∈ l, p x = true → q x = true) (y : α) (hy : y ∈ l) (h1 : p y = false) (h2 : q y = true) : (l.filter p).length < (l.filter q).length := by
  induction l with
  | nil => simp at hy
  | cons x l ih =>
    have hl := filter_le l p q (fun y hy => h y (List.mem_cons_of_mem _ hy))
    by_cases hx : p x = true
    · have hne : y ≠ x := by rintro rfl; rw [hx] at h1; cases h1
      have hyl : y ∈ l := by rcases List.mem_cons.mp hy with e | e; exact absurd e hne; exact e
      have := ih (fun y hy => h y (List.mem_cons_of_mem _ hy)) hyl
      rw [List.filter_cons_of_pos hx, List.filter_cons_of_pos (h x (List.mem_cons_self ..) hx), List.length_cons, List.length_cons]; omega
    · rw [List.filter_cons_of_neg hx]
      rcases List.mem_cons.mp hy with e | e
      · subst e; rw [List.filter_cons_of_pos h2, List.length_cons]; omega
      · have := ih (fun y hy => h y (List.mem_cons_of_mem _ hy)) e
        by_cases hq : q x = true
        · rw [List.filter_cons_of_pos hq, List.length_cons]; omega
        · rw [List.filter_cons_of_neg hq]; exact this
theorem cnt_le {n : Nat} {s t : Sn} (h : ∀ z, s z = true → t z = true) : cnt n t ≤ cnt n s :=
  filter_le _ _ _ (fun x _ hx => by cases hs : s x; rfl; rw [h x hs] at hx; cases hx)
theorem cnt_lt {n : Nat} {s t : Sn} (h : ∀ z, s z = true → t z = true) {y : Nat} (hy : y < n) (h1 : s y = false) (h2 : t y = true) : cnt n t < cnt n s :=
  filter_lt _ _ _ (fun x _ hx => by cases hs : s x; rfl; rw [h x hs] at hx; cases hx) y (List.mem_range.mpr hy) (by rw [h2]; rfl) (by rw [h1]; rfl)
theorem filter_upd (l : List Nat) (hn : l.Nodup) (s : Sn) (x : Nat) (hx : x ∈ l) (hs : s x = false) : (l.filter (fun z => !upd s x z)).length + 1 = (l.filter (fun z => !s z)).length := by
  induction l with
  | nil => simp at hx
  | cons y l ih =>
    obtain ⟨hy, hl⟩ := List.nodup_cons.mp hn
    by_cases e : y = x
    · subst e
      have e2 : l.filter (fun z => !upd s y z) = l.filter (fun z => !s z) := List.filter_congr (fun z hz => by unfold upd; rw [if_neg (by rintro rfl; exact hy hz)])
      rw [List.filter_cons_of_neg (by simp [upd]), List.filter_cons_of_pos (by simp [hs]), e2]; rfl
    · have hx' : x ∈ l := by rcases List.mem_cons.mp hx with e' | e'; exact absurd e'.symm e; exact e'
      have e3 : upd s x y = s y := by unfold upd; rw [if_neg e]
      have := ih hl hx'
      cases hsy : s y with
      | true => rw [List.filter_cons_of_neg (by simp [e3, hsy]), List.filter_cons_of_neg (by simp [hsy])]; exact this
      | false => rw [List.filter_cons_of_pos (by simp [e3, hsy]), List.filter_cons_of_pos (by simp [hsy]), List.length_cons, List.length_cons]; omega
theorem cnt_upd {n : Nat} {s : Sn} {x : Nat} (hx : x < n) (hs : s x = false) : cnt n (upd s x) + 1 = cnt n s :=
  filter_upd _ List.nodup_range s x (List.mem_range.mpr hx) hs
theorem cnt_pos {n : Nat} {s : Sn} {x : Nat} (hx : x < n) (hs : s x = false) : 0 < cnt n s := by have := cnt_upd hx hs; omega

/-- On from a block: what is seen, and what was left, the first one first. -/
def visit (S : List (List Nat)) : Nat → Nat → Sn × List Nat → Sn × List Nat
  | 0, _, st => st
  | f + 1, x, st =>
    let r := (S.getD x []).foldl (fun st y => if st.1 y = true then st else visit S f y st) (upd st.1 x, st.2)
    (r.1, r.2 ++ [x])
def steps (S : List (List Nat)) (f : Nat) (l : List Nat) (st : Sn × List Nat) : Sn × List Nat := l.foldl (fun st y => if st.1 y = true then st else visit S f y st) st
theorem visit_succ (S : List (List Nat)) (f x : Nat) (st : Sn × List Nat) : visit S (f + 1) x st = ((steps S f (S.getD x []) (upd st.1 x, st.2)).1, (steps S f (S.getD x []) (upd st.1 x, st.2)).2 ++ [x]) := rfl
theorem steps_cons (S : List (List Nat)) (f y : Nat) (l : List Nat) (st : Sn × List Nat) : steps S f (y :: l) st = steps S f l (if st.1 y = true then st else visit S f y st) := rfl

/-- What can be reached. -/
inductive Rch (S : List (List Nat)) (w : Int) (r : Nat) : Nat → Prop
  | base : (r : Int) ≠ w → Rch S w r r
  | step {a y : Nat} : Rch S w r a → y ∈ S.getD a [] → (y : Int) ≠ w → Rch S w r y
theorem Rch.lt {S : List (List Nat)} (h : Gr S) {w : Int} {r : Nat} (hr : r < S.length) {x : Nat} (hx : Rch S w r x) : x < S.length := by
  induction hx with
  | base _ => exact hr
  | @step a y _ hy _ ih => exact (h.row a ih).2 y hy
theorem Rch.trans {S : List (List Nat)} {w : Int} {r a b : Nat} (h1 : Rch S w r a) (h2 : Rch S w a b) : Rch S w r b := by
  induction h2 with
  | base _ => exact h1
  | step _ hy hw ih => exact .step ih hy hw

/-- What a way through comes to. -/
structure Vis (S : List (List Nat)) (n : Nat) (st r : Sn × List Nat) : Prop where
  new : ∃ l, r.2 = st.2 ++ l ∧ (∀ z, r.1 z = true ↔ st.1 z = true ∨ z ∈ l) ∧ l.Nodup ∧ (∀ z ∈ l, st.1 z = false ∧ z < n) ∧ l.length + cnt n r.1 = cnt n st.1
theorem Vis.mono {S : List (List Nat)} {n : Nat} {st r : Sn × List Nat} (h : Vis S n st r) {z : Nat} (hz : st.1 z = true) : r.1 z = true := by
  obtain ⟨l, _, h2, _⟩ := h.new; exact (h2 z).mpr (.inl hz)
theorem Vis.refl (S : List (List Nat)) (n : Nat) (st : Sn × List Nat) : Vis S n st st := ⟨⟨[], by simp, by simp, by simp, by simp, by simp⟩⟩
theorem Vis.trans {S : List (List Nat)} {n : Nat} {a b c : Sn × List Nat} (h1 : Vis S n a b) (h2 : Vis S n b c) : Vis S n a c := by
  obtain ⟨l1, e1, s1, n1, u1, c1⟩ := h1.new
  obtain ⟨l2, e2, s2, n2, u2, c2⟩ := h2.new
  refine ⟨⟨l1 ++ l2, by rw [e2, e1, List.append_assoc], fun z => ?_, ?_, fun z hz => ?_, by rw [List.length_append]; omega⟩⟩
  · rw [s2, s1, List.mem_append, or_assoc]
  · rw [List.nodup_append]
    refine ⟨n1, n2, fun x hx y hy e => ?_⟩
    subst e
    have := (u2 _ hy).1
    rw [(s1 x).mpr (.inr hx)] at this; cases this
  · rcases List.mem_append.mp hz with hz | hz
    · exact u1 z hz
    · refine ⟨?_, (u2 z hz).2⟩
      cases ha : a.1 z with
      | false => rfl
      | true => have := (u2 z hz).1; rw [(s1 z).mpr (.inl ha)] at this; cases this

mutual
theorem visit_vis {S : List (List Nat)} (h : Gr S) : ∀ (f x : Nat) (st : Sn × List Nat), x < S.length → st.1 x = false → cnt S.length st.1 ≤ f → Vis S S.length st (visit S f x st) ∧ (visit S f x st).1 x = true
  | 0, x, st, hx, hs, hc => by have := cnt_pos hx hs; omega
  | f + 1, x, st, hx, hs, hc => by
    have hu := cnt_upd hx hs
    have h1 := steps_vis h f (S.getD x []) (upd st.1 x, st.2) (h.row x hx).2 (by show cnt _ (upd st.1 x) ≤ f; omega)
    rw [visit_succ]
    obtain ⟨l, e, s, nd, u, c⟩ := h1.new
    have hxl : x ∉ l := fun hm => by have := (u x hm).1; simp [upd] at this
    refine ⟨⟨⟨l ++ [x], by (show (steps S f (S.getD x []) (upd st.1 x, st.2)).2 ++ [x] = _); rw [e, List.append_assoc], fun z => ?_, ?_, fun z hz => ?_, ?_⟩⟩, (s x).mpr (.inl (upd_self _ _))⟩
    · show _ = true ↔ _
      rw [s]
      show upd st.1 x z = true ∨ _ ↔ _
      rw [upd_true, List.mem_append, List.mem_singleton]
      constructor
      · rintro ((e | e) | e)
        · exact .inr (.inr e)
        · exact .inl e
        · exact .inr (.inl e)
      · rintro (e | e | e)
        · exact .inl (.inr e)
        · exact .inr e
        · exact .inl (.inl e)
    · rw [List.nodup_append]
      refine ⟨nd, by simp, fun a ha b hb e' => ?_⟩
      rw [List.mem_singleton] at hb; rw [e', hb] at ha; exact hxl ha
    · rcases List.mem_append.mp hz with hz | hz
      · refine ⟨?_, (u z hz).2⟩
        have h2 := (u z hz).1
        cases ha : st.1 z with
        | false => rfl
        | true => have : upd st.1 x z = true := upd_true.mpr (.inr ha)
                  have h3 : upd st.1 x z = false := h2
                  rw [this] at h3; cases h3
      · rw [List.mem_singleton] at hz; subst hz; exact ⟨hs, hx⟩
    · rw [List.length_append, List.length_singleton]
      have c' : l.length + cnt S.length (steps S f (S.getD x []) (upd st.1 x, st.2)).1 = cnt S.length (upd st.1 x) := c
      show _ + cnt S.length (steps S f (S.getD x []) (upd st.1 x, st.2)).1 = _
      omega
theorem steps_vis {S : List (List Nat)} (h : Gr S) : ∀ (f : Nat) (l : List Nat) (st : Sn × List Nat), (∀ y ∈ l, y < S.length) → cnt S.length st.1 ≤ f → Vis S S.length st (steps S f l st)
  | _, [], st, _, _ => Vis.refl _ _ _
  | f, y :: l, st, hl, hc => by
    rw [steps_cons]
    by_cases hy : st.1 y = true
    · rw [if_pos hy]; exact steps_vis h f l st (fun z hz => hl z (List.mem_cons_of_mem _ hz)) hc
    · rw [if_neg hy]
      have h1 := (visit_vis h f y st (hl y (List.mem_cons_self ..)) (by simpa using hy) hc).1
      have h2 := steps_vis h f l (visit S f y st) (fun z hz => hl z (List.mem_cons_of_mem _ hz)) (Nat.le_trans (cnt_le (fun z hz => h1.mono hz)) hc)
      exact h1.trans h2
end
theorem steps_seen {S : List (List Nat)} (h : Gr S) (f : Nat) : ∀ (l : List Nat) (st : Sn × List Nat), (∀ y ∈ l, y < S.length) → cnt S.length st.1 ≤ f → ∀ y ∈ l, (steps S f l st).1 y = true := by
  intro l
  induction l with
  | nil => intro st _ _ y hy; simp at hy
  | cons x l ih =>
    intro st hl hc y hy
    rw [steps_cons]
    have hl' : ∀ z ∈ l, z < S.length := fun z hz => hl z (List.mem_cons_of_mem _ hz)
    by_cases hx : st.1 x = true
    · rw [if_pos hx]
      rcases List.mem_cons.mp hy with e | e
      · subst e; exact (steps_vis h f l st hl' hc).mono hx
      · exact ih st hl' hc y e
    · rw [if_neg hx]
      obtain ⟨h1, h2⟩ := visit_vis h f x st (hl x (List.mem_cons_self ..)) (by simpa using hx) hc
      have hc' : cnt S.length (visit S f x st).1 ≤ f := Nat.le_trans (cnt_le (fun z hz => h1.mono hz)) hc
      rcases List.mem_cons.mp hy with e | e
      · subst e; exact (steps_vis h f l _ hl' hc').mono h2
      · exact ih _ hl' hc' y e


/-! #### what is reached -/
mutual
theorem visit_rch {S : List (List Nat)} (r : Nat) : ∀ (f x : Nat) (st : Sn × List Nat), Rch S (-1) r x → ∀ z, (visit S f x st).1 z = true → st.1 z = true ∨ Rch S (-1) r z
  | 0, _, _, _, z, hz => .inl hz
  | f + 1, x, st, hx, z, hz => by
    rw [visit_succ] at hz
    rcases steps_rch r f (S.getD x []) (upd st.1 x, st.2) (fun y hy => .step hx hy (by omega)) z hz with e | e
    · rcases upd_true.mp e with e | e
      · subst e; exact .inr hx
      · exact .inl e
    · exact .inr e
theorem steps_rch {S : List (List Nat)} (r : Nat) : ∀ (f : Nat) (l : List Nat) (st : Sn × List Nat), (∀ y ∈ l, Rch S (-1) r y) → ∀ z, (steps S f l st).1 z = true → st.1 z = true ∨ Rch S (-1) r z
  | _, [], _, _, z, hz => .inl hz
  | f, y :: l, st, hl, z, hz => by
    rw [steps_cons] at hz
    have hl' : ∀ y ∈ l, Rch S (-1) r y := fun z hz => hl z (List.mem_cons_of_mem _ hz)
    by_cases hy : st.1 y = true
    · rw [if_pos hy] at hz; exact steps_rch r f l st hl' z hz
    · rw [if_neg hy] at hz
      rcases steps_rch r f l _ hl' z hz with e | e
      · exact visit_rch r f y st (hl y (List.mem_cons_self ..)) z e
      · exact .inr e
end
mutual
theorem visit_closed {S : List (List Nat)} (h : Gr S) : ∀ (f x : Nat) (st : Sn × List Nat), x < S.length → st.1 x = false → cnt S.length st.1 ≤ f → ∀ z, (visit S f x st).1 z = true → st.1 z = true ∨ ∀ y ∈ S.getD z [], (visit S f x st).1 y = true
  | 0, x, st, hx, hs, hc, _, _ => by have := cnt_pos hx hs; omega
  | f + 1, x, st, hx, hs, hc, z, hz => by
    have hu := cnt_upd hx hs
    have hcu : cnt S.length (upd st.1 x) ≤ f := by omega
    rw [visit_succ] at hz ⊢
    rcases steps_closed h f (S.getD x []) (upd st.1 x, st.2) (h.row x hx).2 hcu z hz with e | e
    · rcases upd_true.mp e with e | e
      · subst e; exact .inr (steps_seen h f _ _ (h.row z hx).2 hcu)
      · exact .inl e
    · exact .inr e
theorem steps_closed {S : List (List Nat)} (h : Gr S) : ∀ (f : Nat) (l : List Nat) (st : Sn × List Nat), (∀ y ∈ l, y < S.length) → cnt S.length st.1 ≤ f → ∀ z, (steps S f l st).1 z = true → st.1 z = true ∨ ∀ y ∈ S.getD z [], (steps S f l st).1 y = true
  | _, [], _, _, _, z, hz => .inl hz
  | f, y :: l, st, hl, hc, z, hz => by
    rw [steps_cons] at hz ⊢
    have hl' : ∀ y ∈ l, y < S.length := fun z hz => hl z (List.mem_cons_of_mem _ hz)
    by_cases hy : st.1 y = true
    · rw [if_pos hy] at hz ⊢; exact steps_closed h f l st hl' hc z hz
    · rw [if_neg hy] at hz ⊢
      have hy' : st.1 y = false := by simpa using hy
      have h1 := (visit_vis h f y st (hl y (List.mem_cons_self ..)) hy' hc).1
      have hc' : cnt S.length (visit S f y st).1 ≤ f := Nat.le_trans (cnt_le (fun z hz => h1.mono hz)) hc
      rcases steps_closed h f l _ hl' hc' z hz with e | e
      · rcases visit_closed h f y st (hl y (List.mem_cons_self ..)) hy' hc z e with e | e
        · exact .inl e
        · exact .inr (fun w hw => (steps_vis h f l _ hl' hc').mono (e w hw))
      · exact .inr e
end

/-! #### where all ways go up -/
/-- Each block ahead of which all those at which it goes on are left. -/
def Ord (S : List (List Nat)) (o : List Nat) : Prop := ∀ l a t, o = l ++ a :: t → ∀ y ∈ S.getD a [], y ∈ l
theorem ord_snoc {S : List (List Nat)} {o : List Nat} {x : Nat} (h : Ord S o) (hx : ∀ y ∈ S.getD x [], y ∈ o) : Ord S (o ++ [x]) := by
  intro l a t e y hy
  rcases List.append_eq_append_iff.mp e with ⟨m, hm1, hm2⟩ | ⟨m, hm1, hm2⟩
  · cases m with
    | nil =>
      have e2 : x :: [] = a :: t := by simpa using hm2
      injection e2 with e3 e4
      subst e3
      rw [List.append_nil] at hm1; subst hm1
      exact hx y hy
    | cons b m =>
      have e2 : [x] = (b :: m) ++ a :: t := hm2
      have := congrArg List.length e2
      simp only [List.length_append, List.length_cons, List.length_nil] at this; omega
  · cases m with
    | nil =>
      have e2 : a :: t = [x] := by simpa using hm2
      injection e2 with e3 e4
      subst e3
      rw [List.append_nil] at hm1; subst hm1
      exact hx y hy
    | cons b m =>
      have e2 : a :: t = (b :: m) ++ [x] := hm2
      injection e2 with e3 e4
      subst e3
      exact h l a m hm1 y hy
mutual
theorem visit_ord {S : List (List Nat)} (h : Gr S) (up : ∀ i, ∀ y ∈ S.getD i [], i < y) : ∀ (f x : Nat) (st : Sn × List Nat), x < S.length → st.1 x = false → cnt S.length st.1 ≤ f → Ord S st.2 → (∀ z, st.1 z = true → z ∈ st.2 ∨ z < x) → Ord S (visit S f x st).2
  | 0, x, st, hx, hs, hc, _, _ => by have := cnt_pos hx hs; omega
  | f + 1, x, st, hx, hs, hc, ho, hlt => by
    have hu := cnt_upd hx hs
    have hcu : cnt S.length (upd st.1 x) ≤ f := by omega
    rw [visit_succ]
    have hy := up x
    obtain ⟨h1, h2⟩ := steps_ord h up f x (S.getD x []) (upd st.1 x, st.2) (fun y hm => ⟨(h.row x hx).2 y hm, hy y hm⟩) hcu ho (fun z hz => by
      rcases upd_true.mp hz with e | e
      · exact .inr (Nat.le_of_eq e)
      · rcases hlt z e with e | e
        · exact .inl e
        · exact .inr (Nat.le_of_lt e))
    refine ord_snoc h1 (fun y hm => ?_)
    rcases h2 y (steps_seen h f _ _ (h.row x hx).2 hcu y hm) with e | e
    · exact e
    · have := hy y hm; omega
theorem steps_ord {S : List (List Nat)} (h : Gr S) (up : ∀ i, ∀ y ∈ S.getD i [], i < y) : ∀ (f x : Nat) (l : List Nat) (st : Sn × List Nat), (∀ y ∈ l, y < S.length ∧ x < y) → cnt S.length st.1 ≤ f → Ord S st.2 → (∀ z, st.1 z = true → z ∈ st.2 ∨ z ≤ x) → Ord S (steps S f l st).2 ∧ ∀ z, (steps S f l st).1 z = true → z ∈ (steps S f l st).2 ∨ z ≤ x
  | _, _, [], _, _, _, ho, hlt => ⟨ho, hlt⟩
  | f, x, y :: l, st, hl, hc, ho, hlt => by
    rw [steps_cons]
    have hl' : ∀ y ∈ l, y < S.length ∧ x < y := fun z hz => hl z (List.mem_cons_of_mem _ hz)
    by_cases hy : st.1 y = true
    · rw [if_pos hy]; exact steps_ord h up f x l st hl' hc ho hlt
    · rw [if_neg hy]
      have hy' : st.1 y = false := by simpa using hy
      obtain ⟨hyn, hyx⟩ := hl y (List.mem_cons_self ..)
      have h1 := (visit_vis h f y st hyn hy' hc).1
      have hc' : cnt S.length (visit S f y st).1 ≤ f := Nat.le_trans (cnt_le (fun z hz => h1.mono hz)) hc
      refine steps_ord h up f x l _ hl' hc' (visit_ord h up f y st hyn hy' hc ho (fun z hz => ?_)) (fun z hz => ?_)
      · rcases hlt z hz with e | e
        · exact .inl e
        · exact .inr (by omega)
      · obtain ⟨n, e1, e2, _⟩ := h1.new
        rw [e1]
        rcases (e2 z).mp hz with e | e
        · rcases hlt z e with e | e
          · exact .inl (List.mem_append.mpr (.inl e))
          · exact .inr e
        · exact .inl (List.mem_append.mpr (.inr e))
end

/-! #### the order from a root -/
def none' : Sn := fun _ => false
theorem cnt_none (n : Nat) : cnt n none' = n := by
  show ((List.range n).filter (fun z => !none' z)).length = n
  rw [show (List.range n).filter (fun z => !none' z) = List.range n from List.filter_eq_self.mpr (fun _ _ => rfl), List.length_range]
def dfs (S : List (List Nat)) (r : Nat) : List Nat := (visit S S.length r (none', [])).2.reverse
theorem dfs_vis {S : List (List Nat)} (h : Gr S) {r : Nat} (hr : r < S.length) : Vis S S.length (none', []) (visit S S.length r (none', [])) ∧ (visit S S.length r (none', [])).1 r = true :=
  visit_vis h S.length r (none', []) hr rfl (Nat.le_of_eq (cnt_none _))
theorem dfs_seen {S : List (List Nat)} (h : Gr S) {r : Nat} (hr : r < S.length) (z : Nat) : z ∈ dfs S r ↔ (visit S S.length r (none', [])).1 z = true := by
  obtain ⟨l, e1, e2, _⟩ := (dfs_vis h hr).1.new
  rw [dfs, List.mem_reverse, e1, e2, List.nil_append]
  constructor
  · exact .inr
  · rintro (e | e)
    · cases e
    · exact e
theorem dfs_mem {S : List (List Nat)} (h : Gr S) {r : Nat} (hr : r < S.length) (z : Nat) : z ∈ dfs S r ↔ Rch S (-1) r z := by
  rw [dfs_seen h hr]
  constructor
  · intro hz
    rcases visit_rch r S.length r (none', []) (.base (by omega)) z hz with e | e
    · cases e
    · exact e
  · intro hz
    induction hz with
    | base _ => exact (dfs_vis h hr).2
    | @step a y _ hy _ ih =>
      rcases visit_closed h S.length r (none', []) hr rfl (Nat.le_of_eq (cnt_none _)) a ih with e | e
      · cases e
      · exact e y hy
theorem dfs_nodup {S : List (List Nat)} (h : Gr S) {r : Nat} (hr : r < S.length) : (dfs S r).Nodup := by
  obtain ⟨l, e1, _, e3, _⟩ := (dfs_vis h hr).1.new
  rw [dfs, e1, List.nil_append]
  exact (List.reverse_perm l).nodup_iff.mpr e3
theorem dfs_lt {S : List (List Nat)} (h : Gr S) {r : Nat} (hr : r < S.length) : ∀ z ∈ dfs S r, z < S.length := by
  intro z hz
  exact ((dfs_mem h hr z).mp hz).lt h hr
theorem dfs_head {S : List (List Nat)} (h : Gr S) (r : Nat) : ∃ l, dfs S r = r :: l := by
  obtain ⟨f, hf⟩ : ∃ f, S.length = f + 1 := ⟨S.length - 1, by have := h.pos; omega⟩
  refine ⟨(steps S f (S.getD r []) (upd none' r, [])).2.reverse, ?_⟩
  rw [dfs, hf, visit_succ]
  simp
theorem dfs_len {S : List (List Nat)} (h : Gr S) {r : Nat} (hr : r < S.length) : (dfs S r).length ≤ S.length := by
  obtain ⟨l, e1, _, _, _, e5⟩ := (dfs_vis h hr).1.new
  have : cnt S.length none' = S.length := cnt_none _
  have e6 : l.length + cnt S.length (visit S S.length r (none', [])).1 = cnt S.length none' := e5
  rw [dfs, e1, List.length_reverse, List.nil_append]; omega
theorem dfs_ord {S : List (List Nat)} (h : Gr S) (hup : ∀ i, ∀ y ∈ S.getD i [], i < y) {r : Nat} (hr : r < S.length) : ∀ l a t, dfs S r = t ++ a :: l → ∀ y ∈ S.getD a [], y ∈ l := by
  intro l a t e y hy
  have h1 := visit_ord h hup S.length r (none', []) hr rfl (Nat.le_of_eq (cnt_none _)) (fun l a t e => by simp at e) (fun z hz => by cases hz)
  have e2 : (visit S S.length r (none', [])).2 = l.reverse ++ a :: t.reverse := by
    have := congrArg List.reverse e
    rw [dfs, List.reverse_reverse] at this
    rw [this]; simp
  exact List.mem_reverse.mp (h1 _ _ _ e2 y hy)

/-! #### dominance -/
/-- Blocks' places, and from where each is come to from ahead. -/
structure Pl (S : List (List Nat)) (r : Nat) (at_ par : Nat → Nat) : Prop where
  inj : ∀ x y, Rch S (-1) r x → Rch S (-1) r y → at_ x = at_ y → x = y
  par : ∀ x, Rch S (-1) r x → x ≠ r → Rch S (-1) r (par x) ∧ x ∈ S.getD (par x) [] ∧ at_ (par x) < at_ x
/-- A block dominates another one. -/
def Dm (S : List (List Nat)) (r d x : Nat) : Prop := Rch S (-1) r x ∧ ¬ Rch S (d : Int) r x
section
variable {S : List (List Nat)} {r : Nat}
theorem rch_no {d : Nat} : ¬ Rch S (d : Int) r d := fun h => by
  cases h with
  | base h => exact h rfl
  | step _ _ h => exact h rfl
theorem rch_all {w : Int} {x : Nat} (h : Rch S w r x) : Rch S (-1) r x := by
  induction h with
  | base _ => exact .base (by omega)
  | step _ hy _ ih => exact .step ih hy (by omega)
theorem rch_root {w : Int} {x : Nat} (h : Rch S w r x) : Rch S w r r := by
  induction h with
  | base h => exact .base h
  | step _ _ _ ih => exact ih
theorem Dm.rch {d x : Nat} (h : Dm S r d x) : Rch S (-1) r x := h.1
theorem dm_refl {x : Nat} (h : Rch S (-1) r x) : Dm S r x x := ⟨h, rch_no⟩
theorem dm_root {x : Nat} (h : Rch S (-1) r x) : Dm S r r x := ⟨h, fun h' => rch_no (rch_root h')⟩
theorem dm_of_root {d : Nat} (h : Dm S r d r) : d = r := by
  refine Classical.byContradiction (fun hn => h.2 (.base (by omega)))
theorem dm_pred {d x p : Nat} (h : Dm S r d x) (hd : d ≠ x) (hp : Rch S (-1) r p) (hx : x ∈ S.getD p []) : Dm S r d p :=
  ⟨hp, fun h' => h.2 (.step h' hx (by omega))⟩
theorem dm_past {a b c : Nat} (h : Rch S (a : Int) r c) : Dm S r b c → Rch S (a : Int) r b := by
  induction h with
  | base h => intro hb; rw [dm_of_root hb]; exact .base h
  | @step q y hq hy hw ih =>
    intro hb
    by_cases e : b = y
    · subst e; exact .step hq hy hw
    · exact ih (dm_pred hb e (rch_all hq) hy)
theorem dm_trans {a b c : Nat} (h1 : Dm S r a b) (h2 : Dm S r b c) : Dm S r a c := ⟨h2.1, fun h => h1.2 (dm_past h h2)⟩
theorem dm_rch {d x : Nat} (h : Dm S r d x) : Rch S (-1) r d := by
  refine Classical.byContradiction (fun hn => h.2 ?_)
  have : ∀ y, Rch S (-1) r y → Rch S (d : Int) r y := by
    intro y hy
    induction hy with
    | base h0 => exact .base (fun e => hn (by rw [← Int.ofNat_inj.mp e]; exact .base h0))
    | @step a y ha hya _ ih => exact .step ih hya (fun e => hn (by rw [← Int.ofNat_inj.mp e]; exact .step ha hya (by omega)))
  exact this x h.1
variable {at_ par : Nat → Nat}
theorem dm_le (hP : Pl S r at_ par) {d : Nat} : ∀ (n x : Nat), at_ x ≤ n → Dm S r d x → at_ d ≤ at_ x := by
  intro n
  induction n with
  | zero =>
    intro x hx h
    by_cases e : d = x
    · subst e; omega
    · by_cases er : x = r
      · subst er; exact absurd (dm_of_root h) e
      · have := (hP.par x h.1 er).2.2; omega
  | succ n ih =>
    intro x hx h
    by_cases e : d = x
    · subst e; omega
    · by_cases er : x = r
      · subst er; exact absurd (dm_of_root h) e
      · obtain ⟨h1, h2, h3⟩ := hP.par x h.1 er
        have := ih (par x) (by omega) (dm_pred h e h1 h2); omega
theorem dm_antisymm (hP : Pl S r at_ par) {a b : Nat} (h1 : Dm S r a b) (h2 : Dm S r b a) : a = b :=
  hP.inj a b h2.1 h1.1 (Nat.le_antisymm (dm_le hP _ _ (Nat.le_refl _) h1) (dm_le hP _ _ (Nat.le_refl _) h2))
/-- The nearest of those that dominate a block. -/
def Idm (S : List (List Nat)) (r z x : Nat) : Prop := Dm S r z x ∧ z ≠ x ∧ ∀ d, Dm S r d x → d ≠ x → Dm S r d z
theorem idm_unique (hP : Pl S r at_ par) {z z' x : Nat} (h : Idm S r z x) (h' : Idm S r z' x) : z = z' :=
  dm_antisymm hP (h'.2.2 z h.1 h.2.1) (h.2.2 z' h'.1 h'.2.1)

/-! #### trees that are being made -/
abbrev Tr := Nat → Option Nat
/-- One is got to from another one, going up. -/
inductive An (T : Tr) (r c : Nat) : Nat → Prop
  | refl {y : Nat} : T c = some y → An T r c c
  | up {x y : Nat} : T x = some y → x ≠ r → An T r c y → An T r c x
inductive Pa (r z : Nat) (par : Nat → Nat) : Nat → Prop
  | refl : Pa r z par z
  | step {x : Nat} : x ≠ r → Pa r z par (par x) → Pa r z par x
theorem Pa.trans {a b c : Nat} (h1 : Pa r a par b) (h2 : Pa r b par c) : Pa r a par c := by
  induction h2 with
  | refl => exact h1
  | step h _ ih => exact .step h ih
structure Inv (S : List (List Nat)) (r : Nat) (at_ par : Nat → Nat) (T : Tr) : Prop where
  root : T r = some r
  rch : ∀ x y, T x = some y → Rch S (-1) r x
  lt : ∀ x y, T x = some y → x ≠ r → at_ y < at_ x ∧ ∃ z, T y = some z
  pa : ∀ x y, T x = some y → x ≠ r → Pa r y par x
  dom : ∀ x y, T x = some y → x ≠ r → ∀ d, Dm S r d x → d ≠ x → Dm S r d y
  low : ∀ x y, T x = some y → x ≠ r → ∀ c, (∀ p z, x ∈ S.getD p [] → T p = some z → An T r c p) → at_ c ≤ at_ y
theorem An.has {T : Tr} {c x : Nat} (h : An T r c x) : ∃ y, T x = some y := by
  cases h with
  | refl h => exact ⟨_, h⟩
  | up h _ _ => exact ⟨_, h⟩
theorem An.top {T : Tr} {c x : Nat} (h : An T r c x) : ∃ y, T c = some y := by
  induction h with
  | refl h => exact ⟨_, h⟩
  | up _ _ _ ih => exact ih
theorem An.trans {T : Tr} {a b c : Nat} (h1 : An T r a b) (h2 : An T r b c) : An T r a c := by
  induction h2 with
  | refl h => exact h1
  | up h hr _ ih => exact .up h hr ih
theorem An.le {T : Tr} (hI : Inv S r at_ par T) {c x : Nat} (h : An T r c x) : at_ c ≤ at_ x := by
  induction h with
  | refl h => exact Nat.le_refl _
  | up h hr _ ih => have := (hI.lt _ _ h hr).1; omega
theorem An.lt {T : Tr} (hI : Inv S r at_ par T) {c x : Nat} (h : An T r c x) (hc : c ≠ x) : at_ c < at_ x := by
  cases h with
  | refl h => exact absurd rfl hc
  | up h hr h2 => have := (hI.lt _ _ h hr).1; have := h2.le hI; omega
theorem An.pa {T : Tr} (hI : Inv S r at_ par T) {c x : Nat} (h : An T r c x) : Pa r c par x := by
  induction h with
  | refl h => exact .refl
  | up h hr _ ih => exact ih.trans (hI.pa _ _ h hr)
theorem dm_an {T : Tr} (hI : Inv S r at_ par T) {d : Nat} : ∀ (n x y : Nat), at_ x ≤ n → T x = some y → Dm S r d x → An T r d x := by
  intro n
  induction n with
  | zero =>
    intro x y hn hx h
    by_cases e : d = x
    · subst e; exact .refl hx
    · by_cases er : x = r
      · subst er; exact absurd (dm_of_root h) e
      · have := (hI.lt x y hx er).1; omega
  | succ n ih =>
    intro x y hn hx h
    by_cases e : d = x
    · subst e; exact .refl hx
    · by_cases er : x = r
      · subst er; exact absurd (dm_of_root h) e
      · obtain ⟨h1, z, h2⟩ := hI.lt x y hx er
        exact .up hx er (ih y z (by omega) h2 (hI.dom x y hx er d h e))
theorem an_dm {T : Tr} (hI : Inv S r at_ par T) {d m q : Nat} (h : An T r m q) : Dm S r d q → at_ d ≤ at_ m → Dm S r d m := by
  induction h with
  | refl h => exact fun h _ => h
  | @up x y h hr h2 ih =>
    intro hd hl
    have h3 := (hI.lt _ _ h hr).1
    have h4 := h2.le hI
    exact ih (hI.dom _ _ h hr d hd (by rintro rfl; omega)) hl
/-- What is right as it is: it is over all from which one comes. -/
def Fx (S : List (List Nat)) (r : Nat) (T : Tr) (x : Nat) : Prop := ∃ z, T x = some z ∧ ∀ p y, x ∈ S.getD p [] → T p = some y → An T r z p
def put (T : Tr) (x m : Nat) : Tr := fun y => if y = x then some m else T y
theorem put_self (T : Tr) (x m : Nat) : put T x m x = some m := by simp [put]
theorem put_ne {T : Tr} {x m y : Nat} (h : y ≠ x) : put T x m y = T y := by simp [put, h]
/-- The nearest one to which one comes from all. -/
def Best (S : List (List Nat)) (r : Nat) (T : Tr) (x m : Nat) : Prop :=
  (∀ p y, x ∈ S.getD p [] → T p = some y → An T r m p) ∧ ∀ c, (∀ p y, x ∈ S.getD p [] → T p = some y → An T r c p) → An T r c m
theorem best_at (hP : Pl S r at_ par) {T : Tr} (hI : Inv S r at_ par T) {x m : Nat} (hx : Rch S (-1) r x) (hr : x ≠ r) (hF : ∀ y, Rch S (-1) r y → at_ y < at_ x → y ≠ r → Fx S r T y) (hB : Best S r T x m) :
    An T r m (par x) ∧ at_ m < at_ x ∧ Pa r m par x := by
  obtain ⟨h1, h2, h3⟩ := hP.par x hx hr
  have h4 : ∃ y, T (par x) = some y := by
    by_cases e : par x = r
    · rw [e]; exact ⟨_, hI.root⟩
    · obtain ⟨z, hz, _⟩ := hF _ h1 h3 e; exact ⟨z, hz⟩
  obtain ⟨y, h4⟩ := h4
  have h5 := hB.1 _ _ h2 h4
  have h6 := h5.le hI
  exact ⟨h5, by omega, .step hr (h5.pa hI)⟩
theorem best_up (hP : Pl S r at_ par) {T : Tr} (hI : Inv S r at_ par T) {x m y : Nat} (hF : ∀ y, Rch S (-1) r y → at_ y < at_ x → y ≠ r → Fx S r T y) (hm : at_ m ≤ at_ y) {v : Nat} (hpa : Pa r y par v) :
    Rch S (-1) r v → at_ v < at_ x → An T r m v → An T r m y := by
  induction hpa with
  | refl => exact fun _ _ h => h
  | @step v hv hp ih =>
    intro hR hv2 ha
    obtain ⟨h1, h2, h3⟩ := hP.par v hR hv
    have hle : at_ y ≤ at_ (par v) := by
      have : ∀ {w : Nat}, Pa r y par w → Rch S (-1) r w → at_ y ≤ at_ w := by
        intro w hw
        induction hw with
        | refl => exact fun _ => Nat.le_refl _
        | @step w hw _ ih => intro hR'; obtain ⟨g1, _, g3⟩ := hP.par w hR' hw; have := ih g1; omega
      exact this hp h1
    obtain ⟨z, hz, hf⟩ := hF v hR hv2 hv
    have hz2 : ∃ y, T (par v) = some y := by
      by_cases e : par v = r
      · rw [e]; exact ⟨_, hI.root⟩
      · obtain ⟨z, hz, _⟩ := hF _ h1 (by omega) e; exact ⟨z, hz⟩
    obtain ⟨z2, hz2⟩ := hz2
    refine ih h1 (by omega) ?_
    cases ha with
    | refl _ => omega
    | @up _ y' h _ h5 =>
      rw [hz] at h; cases h
      exact h5.trans (hf _ _ h2 hz2)
/-- One more step keeps all of it, and goes up. -/
theorem step_inv (hP : Pl S r at_ par) {T : Tr} (hI : Inv S r at_ par T) {x m : Nat} (hx : Rch S (-1) r x) (hr : x ≠ r) (hF : ∀ y, Rch S (-1) r y → at_ y < at_ x → y ≠ r → Fx S r T y) (hB : Best S r T x m) :
    Inv S r at_ par (put T x m) ∧ ∀ y, T x = some y → m ≠ y → at_ m < at_ y := by
  obtain ⟨h1, h2, h3⟩ := best_at hP hI hx hr hF hB
  obtain ⟨p1, p2, p3⟩ := hP.par x hx hr
  obtain ⟨mz, hmz⟩ := h1.top
  have hmx : m ≠ x := by rintro rfl; omega
  have hup : ∀ y, T x = some y → An T r m y := by
    intro y hy
    have hl := hI.low x y hy hr m hB.1
    have hpa := hI.pa x y hy hr
    cases hpa with
    | refl => have := (hI.lt x x hy hr).1; omega
    | step _ hpa => exact best_up hP hI hF hl hpa p1 p3 h1
  have hdown : ∀ {c v : Nat}, An (put T x m) r c v → ∀ z, T v = some z → An T r c v := by
    intro c v h
    induction h with
    | @refl y h => intro z hz; exact .refl hz
    | @up v y h hv h5 ih =>
      intro z hz
      by_cases e : v = x
      · subst e
        rw [put_self] at h; cases h
        exact .up hz hv ((ih _ hmz).trans (hup _ hz))
      · rw [put_ne e, hz] at h; cases h
        obtain ⟨_, z2, h6⟩ := hI.lt v _ hz hv
        exact .up hz hv (ih _ h6)
  have hthere : ∀ v z, T v = some z → ∃ z', put T x m v = some z' := by
    intro v z hz
    by_cases e : v = x
    · subst e; exact ⟨_, put_self _ _ _⟩
    · exact ⟨z, by rw [put_ne e]; exact hz⟩
  refine ⟨⟨?_, ?_, ?_, ?_, ?_, ?_⟩, ?_⟩
  · rw [put_ne (fun e => hr e.symm)]; exact hI.root
  · intro v y hv
    by_cases e : v = x
    · subst e; exact hx
    · rw [put_ne e] at hv; exact hI.rch _ _ hv
  · intro v y hv hvr
    by_cases e : v = x
    · subst e
      rw [put_self] at hv; cases hv
      exact ⟨h2, mz, by rw [put_ne hmx]; exact hmz⟩
    · rw [put_ne e] at hv
      obtain ⟨h6, z, h7⟩ := hI.lt v y hv hvr
      exact ⟨h6, hthere _ _ h7⟩
  · intro v y hv hvr
    by_cases e : v = x
    · subst e
      rw [put_self] at hv; cases hv; exact h3
    · rw [put_ne e] at hv; exact hI.pa v y hv hvr
  · intro v y hv hvr d hd hdv
    by_cases e : v = x
    · subst e
      rw [put_self] at hv; cases hv
      have hall : ∀ p y, v ∈ S.getD p [] → T p = some y → An T r d p := fun p y hp hy => dm_an hI _ p y (Nat.le_refl _) hy (dm_pred hd hdv (hI.rch _ _ hy) hp)
      exact an_dm hI h1 (dm_pred hd hdv p1 p2) ((hB.2 d hall).le hI)
    · rw [put_ne e] at hv; exact hI.dom v y hv hvr d hd hdv
  · intro v y hv hvr c hc
    have hc' : ∀ p z, v ∈ S.getD p [] → T p = some z → An T r c p := by
      intro p z hp hz
      obtain ⟨z', hz'⟩ := hthere p z hz
      exact hdown (hc p z' hp hz') z hz
    by_cases e : v = x
    · subst e
      rw [put_self] at hv; cases hv
      exact (hB.2 c hc').le hI
    · rw [put_ne e] at hv; exact hI.low v y hv hvr c hc'
  · intro y hy hne
    exact (hup y hy).lt hI hne
/-- Where all is right, each entry is the nearest one that dominates. -/
theorem fix_idm {T : Tr} (hI : Inv S r at_ par T) (hF : ∀ y, Rch S (-1) r y → y ≠ r → Fx S r T y) : ∀ x z, T x = some z → x ≠ r → Idm S r z x := by
  have key : ∀ (c x : Nat), Rch S (c : Int) r x → An T r c x → False := by
    intro c x h
    induction h with
    | base h =>
      intro ha
      cases ha with
      | refl _ => exact h rfl
      | up _ h2 _ => exact h2 rfl
    | @step a x ha hx hw ih =>
      intro hA
      have haR := rch_all ha
      cases hA with
      | refl _ => exact hw rfl
      | @up _ z h2 hr h3 =>
        obtain ⟨z', hz', hf⟩ := hF x (.step haR hx (by omega)) hr
        rw [h2] at hz'; cases hz'
        have : ∃ y, T a = some y := by
          by_cases e : a = r
          · rw [e]; exact ⟨_, hI.root⟩
          · obtain ⟨y, hy, _⟩ := hF a haR e; exact ⟨y, hy⟩
        obtain ⟨y, hy⟩ := this
        exact ih (h3.trans (hf a y hx hy))
  intro x z hx hr
  have hR := hI.rch _ _ hx
  obtain ⟨h1, z2, h2⟩ := hI.lt x z hx hr
  refine ⟨⟨hR, fun h => key z x h (.up hx hr (.refl h2))⟩, by rintro rfl; omega, hI.dom x z hx hr⟩
end
end Go.Proofs.Ytoekeknfeinphaa.GP
namespace Go.Proofs.Ytoekeknfeinphaa.GP
open Go.RowKit Go.Proofs.Ytoekeknfeinphaa.G Go.Proofs.YtoekeknfeinphaaW.PrintWords

/-! #### slices.Reverse -/
def rv (l : List Int) (n i t : Nat) : Int := if t < i ∨ n ≤ t + i then l.getD (n - 1 - t) 0 else l.getD t 0
theorem rv_end (l : List Int) (n i : Nat) (hn : l.length = n) (hi : n ≤ 2 * i + 1) : (List.range n).map (rv l n i) = l.reverse := by
  apply ext_getD 0
  · simp [hn]
  · intro t ht
    rw [List.length_map, List.length_range] at ht
    rw [getD_map_range _ _ _ _ ht]
    have e1 : l.reverse.getD t 0 = l.getD (n - 1 - t) 0 := by
      rw [List.getD_eq_getElem?_getD, List.getD_eq_getElem?_getD, List.getElem?_reverse (by omega), hn]
    rw [e1]
    unfold rv
    split
    · rfl
    · next hc => rw [show n - 1 - t = t by omega]
theorem reverse_l0 (l : List Int) (n : Nat) (hn : l.length = n) (hb : n ≤ big) (d : Nat) : ∀ i, 2 * i ≤ n + 1 → n + 1 - 2 * i ≤ d → Ev (fun k => slices_Reverse_int_int.l0 k ((List.range n).map (rv l n i)) (i : Int) ((n : Int) - 1 - (i : Int))) l.reverse := by
  have hbb : big = 9223372036854775807 := rfl
  induction d with
  | zero =>
    intro i hi hd
    refine Ev.succ ?_; simp only [slices_Reverse_int_int.l0]
    refine Ev.ifn (by omega) ?_
    rw [rv_end l n i hn (by omega)]; exact Ev.pure
  | succ d ih =>
    intro i hi hd
    refine Ev.succ ?_; simp only [slices_Reverse_int_int.l0]
    by_cases hc : (i : Int) < (n : Int) - 1 - (i : Int)
    · refine Ev.ifp hc (Ev.ifp (by omega) (Ev.ifp (by simp; omega) (Ev.ifp (by omega) (Ev.ifp (by simp; omega) ?_))))
      have ej : (n : Int) - 1 - (i : Int) = ((n - 1 - i : Nat) : Int) := by omega
      rw [ej]
      have r1 : rd ((List.range n).map (rv l n i)) ((n - 1 - i : Nat) : Int) = l.getD (n - 1 - i) 0 := by
        simp only [rd, Int.toNat_natCast]
        rw [getD_map_range _ _ _ _ (by omega)]
        unfold rv; rw [if_neg (by omega)]
      have r2 : rd ((List.range n).map (rv l n i)) ((i : Nat) : Int) = l.getD i 0 := by
        simp only [rd, Int.toNat_natCast]
        rw [getD_map_range _ _ _ _ (by omega)]
        unfold rv; rw [if_neg (by omega)]
      rw [r1, r2, Int.toNat_natCast, Int.toNat_natCast]
      have s1 : ((List.range n).map (rv l n i)).set i (l.getD (n - 1 - i) 0) = (List.range n).map (fun t => if t = i then l.getD (n - 1 - i) 0 else rv l n i t) :=
        set_map_range _ _ _ _ _ (by simp) (fun j hj => by simp [hj])
      have s2 : ((List.range n).map (fun t => if t = i then l.getD (n - 1 - i) 0 else rv l n i t)).set (n - 1 - i) (l.getD i 0) = (List.range n).map (rv l n (i + 1)) := by
        refine set_map_range _ _ _ _ _ ?_ (fun j hj => ?_)
        · unfold rv; rw [if_pos (by omega), show n - 1 - (n - 1 - i) = i by omega]
        · by_cases e : j = i
          · subst e; rw [if_pos rfl]; unfold rv; rw [if_pos (by omega)]
          · rw [if_neg e]; unfold rv
            by_cases hq : j < i ∨ n ≤ j + i
            · rw [if_pos hq, if_pos (by omega)]
            · rw [if_neg hq, if_neg (by omega)]
      rw [s1, s2, wrap_nat (by omega), wrap_id (by omega) (by omega), show ((n - 1 - i : Nat) : Int) - 1 = (n : Int) - 1 - ((i + 1 : Nat) : Int) by omega]
      exact ih (i + 1) (by omega) (by omega)
    · refine Ev.ifn hc ?_
      rw [rv_end l n i hn (by omega)]; exact Ev.pure
theorem reverse_ok (l : List Int) (hb : l.length ≤ big) : Ev (fun k => slices_Reverse_int_int.f k l) l.reverse := by
  have hbb : big = 9223372036854775807 := rfl
  unfold slices_Reverse_int_int.f
  have e : l = (List.range l.length).map (rv l l.length 0) := by
    apply ext_getD 0
    · simp
    · intro t ht
      rw [getD_map_range _ _ _ _ ht]
      unfold rv; rw [if_neg (by omega)]
  have h := reverse_l0 l l.length rfl hb (l.length + 1) 0 (by omega) (by omega)
  rw [← e] at h
  rw [wrap_id (by omega) (by omega)]
  simpa using h

/-! #### the machine's state -/
def rb (s : Sn) : List Bool := (List.range 64).map s
def ri (nx : Nat → Nat) : List Int := (List.range 64).map (fun z => ((nx z : Nat) : Int))
def updn (nx : Nat → Nat) (x m : Nat) : Nat → Nat := fun z => if z = x then m else nx z
theorem rd_rb (s : Sn) {y : Nat} (h : y < 64) : rdOf false (rb s) (y : Int) = s y := by
  simp only [rdOf, Int.toNat_natCast, rb]; exact getD_map_range _ _ _ _ h
theorem rd_ri (nx : Nat → Nat) {y : Nat} (h : y < 64) : rd (ri nx) (y : Int) = ((nx y : Nat) : Int) := by
  simp only [rd, Int.toNat_natCast, ri]; exact getD_map_range 64 (fun z => ((nx z : Nat) : Int)) _ _ h
theorem set_rb (s : Sn) (y : Nat) : (rb s).set y true = rb (upd s y) :=
  set_map_range _ _ _ _ _ (by simp [upd]) (fun j hj => by simp [upd, hj])
theorem set_ri (nx : Nat → Nat) (x m : Nat) : (ri nx).set x (m : Int) = ri (updn nx x m) :=
  set_map_range _ _ _ _ _ (by simp [updn]) (fun j hj => by simp [updn, hj])
theorem up_snoc (l : List Nat) (x : Nat) : up (l ++ [x]) = up l ++ [(x : Int)] := by simp [up]
theorem rd_snoc (l : List Nat) (x : Nat) : rd (up (l ++ [x])) (l.length : Int) = (x : Int) := by
  rw [rd_up, List.getD_eq_getElem?_getD, List.getElem?_append_right (Nat.le_refl _)]; simp

def After (S : List (List Nat)) (P : List (List Int)) (sn : Sn) (nx : Nat → Nat) (o st : List Nat) (v : List Int) : Prop :=
  Ev (fun k => if ((up st).length : Int) > 0 then graph_Order.l0 k (rb sn) (ri nx) (up o) (up st) (up2 S) P else (slices_Reverse_int_int.f k (up o)).bind fun t => some t) v
theorem order_l0 {S : List (List Nat)} {P : List (List Int)} {sn : Sn} {nx : Nat → Nat} {o st : List Nat} {x : Nat} {v : List Int} (hb : st.length ≤ 64)
    (h : Ev (fun k => graph_Order.l1 k (rb sn) (ri nx) (up o) (up (st ++ [x])) (x : Int) (up2 S) P) v) : Ev (fun k => graph_Order.l0 k (rb sn) (ri nx) (up o) (up (st ++ [x])) (up2 S) P) v := by
  refine Ev.succ ?_; simp only [graph_Order.l0]
  have e : wrap64 (((up (st ++ [x])).length : Int) - 1) = (st.length : Int) := by
    rw [up_length, List.length_append, List.length_singleton, wrap_id (by omega) (by omega)]; omega
  rw [e, rd_snoc]
  exact Ev.ifp (by omega) (Ev.ifp (by rw [up_length, List.length_append, List.length_singleton]; omega) h)

theorem sim {S : List (List Nat)} (h : Gr S) (P : List (List Int)) (v : List Int) : ∀ (f x : Nat) (sn : Sn) (nx : Nat → Nat) (o st : List Nat), x < S.length → sn x = false → cnt S.length sn ≤ f → (∀ z, sn z = false → nx z = 0) →
    o.length + st.length + cnt S.length sn ≤ 64 →
    (∀ nx', (∀ z, (visit S f x (sn, o)).1 z = false → nx' z = 0) → (∀ z, sn z = true → nx' z = nx z) → After S P (visit S f x (sn, o)).1 nx' (visit S f x (sn, o)).2 st v) →
    Ev (fun k => graph_Order.l1 k (rb (upd sn x)) (ri nx) (up o) (up (st ++ [x])) (x : Int) (up2 S) P) v := by
  have hle := h.le
  intro f
  induction f with
  | zero => intro x sn nx o st hx hs hc; have := cnt_pos hx hs; omega
  | succ f ihf =>
    intro x sn nx o st hx hs hc hz0 hB hK
    have hu := cnt_upd hx hs
    have hdeg := gr_len h hx
    rw [visit_succ] at hK
    have inner : ∀ (m j : Nat) (sn1 : Sn) (nx1 : Nat → Nat) (o1 : List Nat), (S.getD x []).length - j = m → j ≤ (S.getD x []).length → nx1 x = j → sn1 x = true → (∀ z, sn1 z = false → nx1 z = 0) → cnt S.length sn1 ≤ f →
        o1.length + (st.length + 1) + cnt S.length sn1 ≤ 64 → (∀ z, sn z = true → sn1 z = true ∧ nx1 z = nx z) → steps S f ((S.getD x []).drop j) (sn1, o1) = steps S f (S.getD x []) (upd sn x, o) →
        Ev (fun k => graph_Order.l1 k (rb sn1) (ri nx1) (up o1) (up (st ++ [x])) (x : Int) (up2 S) P) v := by
      intro m
      induction m with
      | zero =>
        intro j sn1 nx1 o1 hm hj hnx hsx hzz hcc hbb hkeep heq
        refine Ev.succ ?_; simp only [graph_Order.l1]
        rw [rdL_up, up_length, rd_ri nx1 (by omega), hnx]
        refine Ev.ifp (by omega) (Ev.ifp (by omega) (Ev.ifp (by rw [up2_length]; omega) (Ev.ifn (by omega) (Ev.ifp (by rw [up_length]; omega) ?_))))
        simp only [Option.bind_some]
        have e : wrap64 (((up (st ++ [x])).length : Int) - 1) = (st.length : Int) := by
          rw [up_length, List.length_append, List.length_singleton, wrap_id (by omega) (by omega)]; omega
        rw [e, Int.toNat_natCast]
        refine Ev.ifp (by omega) (Ev.ifp (by rw [up_length, List.length_append, List.length_singleton]; omega) ?_)
        have e2 : (up (st ++ [x])).take st.length = up st := by rw [up_snoc]; simp [up]
        rw [e2, ← up_snoc]
        rw [List.drop_of_length_le (by omega)] at heq
        have e3 : steps S f (S.getD x []) (upd sn x, o) = (sn1, o1) := heq.symm
        rw [e3] at hK
        exact hK nx1 hzz (fun z hz => (hkeep z hz).2)
      | succ m ihm =>
        intro j sn1 nx1 o1 hm hj hnx hsx hzz hcc hbb hkeep heq
        have hj1 : j < (S.getD x []).length := by omega
        have hy := (h.row x hx).2 _ (getD_mem (d := 0) hj1)
        have hxS : sn x = false := hs
        rw [drop_getD _ j 0 hj1, steps_cons] at heq
        refine Ev.succ ?_; simp only [graph_Order.l1]
        rw [rdL_up, up_length, rd_ri nx1 (by omega), hnx, rd_up]
        generalize (S.getD x []).getD j 0 = y at hy heq
        refine Ev.ifp (by omega) (Ev.ifp (by omega) (Ev.ifp (by rw [up2_length]; omega) (Ev.ifp (by omega) (Ev.ifp (by omega) ?_))))
        rw [wrap_nat (by omega), Int.toNat_natCast, set_ri]
        simp only [Option.bind_some]
        refine Ev.ifp (by omega) (Ev.ifp (by omega) ?_)
        rw [rd_rb sn1 (by omega)]
        have hkeep2 : ∀ z, sn z = true → sn1 z = true ∧ updn nx1 x (j + 1) z = nx z := fun z hz => by
          refine ⟨(hkeep z hz).1, ?_⟩
          unfold updn; rw [if_neg (by rintro rfl; rw [hz] at hxS; cases hxS)]; exact (hkeep z hz).2
        have hzz2 : ∀ z, sn1 z = false → updn nx1 x (j + 1) z = 0 := fun z hz => by
          unfold updn; rw [if_neg (by rintro rfl; rw [hz] at hsx; cases hsx)]; exact hzz z hz
        by_cases hys : sn1 y = true
        · refine Ev.ifp hys ?_
          rw [if_pos hys] at heq
          exact ihm (j + 1) sn1 (updn nx1 x (j + 1)) o1 (by omega) (by omega) (by simp [updn]) hsx hzz2 hcc hbb hkeep2 heq
        · refine Ev.ifn hys (Ev.ifp (by rw [up_length, List.length_append, List.length_singleton]; omega) ?_)
          rw [if_neg hys] at heq
          have hys' : sn1 y = false := by simpa using hys
          rw [Int.toNat_natCast, set_rb, ← up_snoc]
          refine order_l0 (by rw [List.length_append, List.length_singleton]; omega) ?_
          refine ihf y sn1 (updn nx1 x (j + 1)) o1 (st ++ [x]) hy hys' hcc hzz2 (by rw [List.length_append, List.length_singleton]; omega) (fun nx' hn1 hn2 => ?_)
          have hvis := (visit_vis h f y (sn1, o1) hy hys' hcc).1
          obtain ⟨l, e1, e2, _, _, e5⟩ := hvis.new
          have hmono : ∀ z, sn1 z = true → (visit S f y (sn1, o1)).1 z = true := fun z hz => hvis.mono hz
          unfold After
          refine Ev.ifp (by rw [up_length, List.length_append, List.length_singleton]; omega) ?_
          refine order_l0 (by omega) ?_
          have e5' : l.length + cnt S.length (visit S f y (sn1, o1)).1 = cnt S.length sn1 := e5
          have e1' : (visit S f y (sn1, o1)).2 = o1 ++ l := e1
          refine ihm (j + 1) _ nx' _ (by omega) (by omega) (by rw [hn2 x hsx]; simp [updn]) (hmono x hsx) hn1 (Nat.le_trans (cnt_le hmono) hcc) ?_ (fun z hz => ⟨hmono z (hkeep z hz).1, by rw [hn2 z (hkeep z hz).1]; exact (hkeep2 z hz).2⟩) heq
          rw [e1', List.length_append]; omega
    exact inner _ 0 (upd sn x) nx o rfl (by omega) (hz0 x hs) (upd_self _ _) (fun z hz => hz0 z (by
      cases hq : sn z with
      | false => rfl
      | true => rw [upd_true.mpr (.inr hq)] at hz; cases hz)) (by omega) (by omega) (fun z hz => ⟨upd_true.mpr (.inr hz), rfl⟩) rfl

theorem order_ok {S : List (List Nat)} (h : Gr S) {r : Nat} (hr : r < S.length) : Ev (fun k => graph_Order.f k (up2 S) (up2 (pr S)) (r : Int)) (up (dfs S r)) := by
  have hle := h.le
  unfold graph_Order.f
  refine Ev.bind (may_ok h _) ?_
  refine Ev.ifp (by simp) (Ev.ifn (by omega) ?_)
  refine Ev.succ ?_; simp only [graph_Order.j0]
  refine Ev.ifn (by rw [up2_length]; simp; omega) (Ev.ifp (by omega) (Ev.ifp (by omega) ?_))
  have e1 : (List.replicate 64 false).set ((r : Int)).toNat true = rb (upd none' r) := by
    rw [Int.toNat_natCast, ← set_rb]; rfl
  have e2 : List.replicate 64 (0 : Int) = ri (fun _ => 0) := rfl
  rw [e1, e2]
  have hl := dfs_len h hr
  have := sim h (up2 (pr S)) (up (dfs S r)) S.length r none' (fun _ => 0) [] [] hr rfl (Nat.le_of_eq (cnt_none _)) (fun _ _ => rfl) (by rw [cnt_none]; simp; exact hle) (fun nx' _ _ => by
    unfold After
    refine Ev.ifn (by simp) ?_
    refine Ev.bind (reverse_ok _ ?_) (Ev.pure.of_eq ?_)
    · rw [up_length]
      have e : (dfs S r).length = (visit S S.length r (none', [])).2.length := by rw [dfs, List.length_reverse]
      simp only [big]; omega
    · rw [dfs, up, up, List.map_reverse])
  exact order_l0 (st := []) (by simp) this
theorem order_out {S : List (List Nat)} (h : Gr S) (p : List (List Int)) (r : Int) (hr : r < 0 ∨ (S.length : Int) ≤ r) : Ev (fun k => graph_Order.f k (up2 S) p r) [] := by
  unfold graph_Order.f
  refine Ev.bind (may_ok h _) ?_
  have hj : Ev (fun k => graph_Order.j0 k r true (up2 S) p) ([] : List Int) := by
    refine Ev.succ ?_; simp only [graph_Order.j0]; exact Ev.ifp trivial Ev.pure
  by_cases hp : up2 (pr S) = p
  · refine Ev.ifp (by simp [hp]) ?_
    by_cases h0 : r < 0
    · exact Ev.ifp h0 hj
    · refine Ev.ifn h0 ?_
      rw [decide_eq_true (by rw [up2_length]; omega)]; exact hj
  · exact Ev.ifn (by simp [hp]) hj
theorem order_no {s p : List (List Int)} (r : Int) (hm : Ev (fun k => graph_May.f k s p) false) : Ev (fun k => graph_Order.f k s p r) [] := by
  unfold graph_Order.f
  refine Ev.bind hm (Ev.ifn (by decide) ?_)
  refine Ev.succ ?_; simp only [graph_Order.j0]; exact Ev.ifp trivial Ev.pure

/-! #### each block but the first one has one ahead of it from which it is come to -/
mutual
theorem visit_par (S : List (List Nat)) : ∀ (f x : Nat) (st : Sn × List Nat), ∃ l, (visit S f x st).2 = st.2 ++ l ∧ ∀ l1 z l2, l = l1 ++ z :: l2 → z = x ∨ ∃ p ∈ l2, z ∈ S.getD p []
  | 0, x, st => ⟨[], by simp [visit], fun l1 z l2 e => by simp at e⟩
  | f + 1, x, st => by
    obtain ⟨l, h1, h2⟩ := steps_par S f (S.getD x []) (upd st.1 x, st.2)
    refine ⟨l ++ [x], by rw [visit_succ]; show (steps S f (S.getD x []) (upd st.1 x, st.2)).2 ++ [x] = _; rw [h1, List.append_assoc], fun l1 z l2 e => ?_⟩
    rcases List.append_eq_append_iff.mp e with ⟨m, hm1, hm2⟩ | ⟨m, hm1, hm2⟩
    · cases m with
      | nil => simp at hm2; exact .inl hm2.1.symm
      | cons b m =>
        have := congrArg List.length hm2
        simp only [List.length_append, List.length_cons, List.length_nil] at this; omega
    · cases m with
      | nil => simp at hm2; exact .inl hm2.1
      | cons b m =>
        injection hm2 with e1 e2
        subst e1
        right
        rcases h2 l1 z m hm1 with e3 | ⟨p, hp, e3⟩
        · exact ⟨x, by rw [e2]; simp, e3⟩
        · exact ⟨p, by rw [e2]; exact List.mem_append_left _ hp, e3⟩
theorem steps_par (S : List (List Nat)) : ∀ (f : Nat) (ys : List Nat) (st : Sn × List Nat), ∃ l, (steps S f ys st).2 = st.2 ++ l ∧ ∀ l1 z l2, l = l1 ++ z :: l2 → z ∈ ys ∨ ∃ p ∈ l2, z ∈ S.getD p []
  | f, [], st => ⟨[], by simp [steps], fun l1 z l2 e => by simp at e⟩
  | f, y :: ys, st => by
    rw [steps_cons]
    by_cases hy : st.1 y = true
    · rw [if_pos hy]
      obtain ⟨l, h1, h2⟩ := steps_par S f ys st
      refine ⟨l, h1, fun l1 z l2 e => ?_⟩
      rcases h2 l1 z l2 e with e | e
      · exact .inl (List.mem_cons_of_mem _ e)
      · exact .inr e
    · rw [if_neg hy]
      obtain ⟨la, a1, a2⟩ := visit_par S f y st
      obtain ⟨lb, b1, b2⟩ := steps_par S f ys (visit S f y st)
      refine ⟨la ++ lb, by rw [b1, a1, List.append_assoc], fun l1 z l2 e => ?_⟩
      rcases List.append_eq_append_iff.mp e with ⟨m, hm1, hm2⟩ | ⟨m, hm1, hm2⟩
      · rcases b2 m z l2 hm2 with e | e
        · exact .inl (List.mem_cons_of_mem _ e)
        · exact .inr e
      · cases m with
        | nil =>
          rcases b2 [] z l2 hm2.symm with e | e
          · exact .inl (List.mem_cons_of_mem _ e)
          · exact .inr e
        | cons b m =>
          injection hm2 with e1 e2
          subst e1
          rcases a2 l1 z m hm1 with e3 | ⟨p, hp, e3⟩
          · exact .inl (e3 ▸ List.mem_cons_self ..)
          · exact .inr ⟨p, by rw [e2]; exact List.mem_append_left _ hp, e3⟩
end
theorem dfs_par {S : List (List Nat)} {r : Nat} {l1 l2 : List Nat} {z : Nat} (e : dfs S r = l1 ++ z :: l2) (hz : z ≠ r) : ∃ p ∈ l1, z ∈ S.getD p [] := by
  obtain ⟨l, h1, h2⟩ := visit_par S S.length r (none', [])
  have e2 : l = l2.reverse ++ z :: l1.reverse := by
    have e3 := congrArg List.reverse e
    rw [dfs, List.reverse_reverse, h1] at e3
    simpa using e3
  rcases h2 _ _ _ e2 with e3 | ⟨p, hp, e3⟩
  · exact absurd e3 hz
  · exact ⟨p, List.mem_reverse.mp hp, e3⟩
theorem nodup_inj : ∀ {l : List Nat}, l.Nodup → ∀ {i j : Nat} (hi : i < l.length) (hj : j < l.length), l[i] = l[j] → i = j := by
  intro l
  induction l with
  | nil => intro _ i j hi; simp at hi
  | cons x l ih =>
    intro hn i j hi hj e
    obtain ⟨h1, h2⟩ := List.nodup_cons.mp hn
    cases i with
    | zero => cases j with
      | zero => rfl
      | succ j => exact absurd (by simp at e; rw [e]; exact List.getElem_mem _) h1
    | succ i => cases j with
      | zero => exact absurd (by simp at e; rw [← e]; exact List.getElem_mem _) h1
      | succ j =>
        have := ih h2 (i := i) (j := j) (by simpa using hi) (by simpa using hj) (by simpa using e)
        omega
/-- Places by the order. -/
def Places (o : List Nat) (at_ : Nat → Nat) : Prop := ∀ j, j < o.length → at_ (o.getD j 0) = j
theorem mem_at {o : List Nat} {x : Nat} (h : x ∈ o) : ∃ i, i < o.length ∧ o.getD i 0 = x := by
  obtain ⟨i, hi, e⟩ := List.getElem_of_mem h
  exact ⟨i, hi, by rw [List.getD_eq_getElem?_getD, List.getElem?_eq_getElem hi]; exact e⟩
theorem dfs_pl {S : List (List Nat)} (h : Gr S) {r : Nat} (hr : r < S.length) {at_ : Nat → Nat} (ha : Places (dfs S r) at_) : ∃ par, Pl S r at_ par := by
  have key : ∀ x, Rch S (-1) r x → x ≠ r → ∃ p, Rch S (-1) r p ∧ x ∈ S.getD p [] ∧ at_ p < at_ x := by
    intro x hx hxr
    obtain ⟨i, hi, e⟩ := mem_at ((dfs_mem h hr x).mpr hx)
    have e2 : dfs S r = (dfs S r).take i ++ x :: (dfs S r).drop (i + 1) := by
      have e1 := drop_getD (dfs S r) i 0 hi
      rw [e] at e1
      rw [← e1, List.take_append_drop]
    obtain ⟨p, hp, hpx⟩ := dfs_par e2 hxr
    have hp2 := List.mem_of_mem_take hp
    refine ⟨p, (dfs_mem h hr p).mp hp2, hpx, ?_⟩
    obtain ⟨j, hj, e3⟩ := List.getElem_of_mem hp
    have hj' : j < i := by simp at hj; omega
    have e4 : (dfs S r).getD j 0 = p := by
      rw [List.getD_eq_getElem?_getD, List.getElem?_eq_getElem (by omega)]
      rw [List.getElem_take] at e3; exact e3
    rw [← e4, ha j (by omega), ← e, ha i hi]; exact hj'
  have := fun x => Classical.propDecidable (Rch S (-1) r x ∧ x ≠ r)
  refine ⟨fun x => if hx : Rch S (-1) r x ∧ x ≠ r then (key x hx.1 hx.2).choose else 0, ?_, ?_⟩
  · intro x y hx hy e
    obtain ⟨i, hi, e1⟩ := mem_at ((dfs_mem h hr x).mpr hx)
    obtain ⟨j, hj, e2⟩ := mem_at ((dfs_mem h hr y).mpr hy)
    rw [← e1, ← e2, ha i hi, ha j hj] at e
    rw [← e1, ← e2, e]
  · intro x hx hxr
    simp only [dif_pos (show Rch S (-1) r x ∧ x ≠ r from ⟨hx, hxr⟩)]
    exact (key x hx hxr).choose_spec

/-! #### lists of entries -/
def tv (T : Tr) (x : Nat) : Int := match T x with | none => -2 | some y => (y : Int)
def tl (n : Nat) (T : Tr) : List Int := (List.range n).map (tv T)
def li (n : Nat) (f : Nat → Nat) : List Int := (List.range n).map (fun x => ((f x : Nat) : Int))
@[simp] theorem tl_length (n : Nat) (T : Tr) : (tl n T).length = n := by simp [tl]
@[simp] theorem li_length (n : Nat) (f : Nat → Nat) : (li n f).length = n := by simp [li]
theorem rd_tl {n : Nat} (T : Tr) {x : Nat} (h : x < n) : rd (tl n T) (x : Int) = tv T x := by
  simp only [rd, Int.toNat_natCast, tl]; exact getD_map_range _ _ _ _ h
theorem rd_li {n : Nat} (f : Nat → Nat) {x : Nat} (h : x < n) : rd (li n f) (x : Int) = ((f x : Nat) : Int) := by
  simp only [rd, Int.toNat_natCast, li]; exact getD_map_range _ _ _ _ h
theorem set_tl (n : Nat) (T : Tr) (x y : Nat) : (tl n T).set x (y : Int) = tl n (put T x y) :=
  set_map_range _ _ _ _ _ (by simp [tv, put]) (fun j hj => by simp [tv, put, hj])
def updn' (f : Nat → Nat) (x v : Nat) : Nat → Nat := fun y => if y = x then v else f y
theorem set_li (n : Nat) (f : Nat → Nat) (x v : Nat) : (li n f).set x (v : Int) = li n (updn' f x v) :=
  set_map_range _ _ _ _ _ (by simp [updn']) (fun j hj => by simp [updn', hj])
theorem tv_some {T : Tr} {x y : Nat} (h : T x = some y) : tv T x = (y : Int) := by simp [tv, h]
theorem tv_none {T : Tr} {x : Nat} (h : T x = none) : tv T x = -2 := by simp [tv, h]

/-! #### where two ways up meet -/
def Lca (T : Tr) (r a b m : Nat) : Prop := An T r m a ∧ An T r m b ∧ ∀ c, An T r c a → An T r c b → An T r c m
section
variable {S : List (List Nat)} {r n : Nat} {at_ par : Nat → Nat} {T : Tr}
theorem lca_left (hI : Inv S r at_ par T) {a a' b m : Nat} (ha : T a = some a') (hr : a ≠ r) (hlt : at_ b < at_ a) (h : Lca T r a' b m) : Lca T r a b m := by
  refine ⟨.up ha hr h.1, h.2.1, fun c h1 h2 => ?_⟩
  cases h1 with
  | refl _ => have := h2.le hI; omega
  | up h3 _ h4 => rw [ha] at h3; cases h3; exact h.2.2 c h4 h2
theorem lca_right (hI : Inv S r at_ par T) {a b b' m : Nat} (hb : T b = some b') (hr : b ≠ r) (hlt : at_ a < at_ b) (h : Lca T r a b' m) : Lca T r a b m := by
  refine ⟨h.1, .up hb hr h.2.1, fun c h1 h2 => ?_⟩
  cases h2 with
  | refl _ => have := h1.le hI; omega
  | up h3 _ h4 => rw [hb] at h3; cases h3; exact h.2.2 c h1 h4
theorem meet_all (hG : Gr S) (hr : r < S.length) (hP : Pl S r at_ par) (h0 : at_ r = 0) (hI : Inv S r at_ par T) : ∀ (N a b a' b' : Nat), at_ a + at_ b ≤ N → T a = some a' → T b = some b' →
    (∃ m : Nat, Ev (fun k => dom_meet.l0 k (tl S.length T) (li S.length at_) (a : Int) (b : Int)) (m : Int) ∧ Lca T r a b m) ∧
    (∃ m : Nat, Ev (fun k => dom_meet.l1 k (tl S.length T) (li S.length at_) (a : Int) (b : Int)) (m : Int) ∧ Lca T r a b m) ∧
    (∃ m : Nat, Ev (fun k => dom_meet.l2 k (tl S.length T) (li S.length at_) (a : Int) (b : Int)) (m : Int) ∧ Lca T r a b m) := by
  intro N
  induction N with
  | zero =>
    intro a b a' b' hN ha hb
    have e : a = b := hP.inj a b (hI.rch _ _ ha) (hI.rch _ _ hb) (by omega)
    subst e
    have hal := (hI.rch _ _ ha).lt hG hr
    have hl : Lca T r a a a := ⟨.refl ha, .refl ha, fun c h _ => h⟩
    have l0 : Ev (fun k => dom_meet.l0 k (tl S.length T) (li S.length at_) (a : Int) (a : Int)) (a : Int) := by
      refine Ev.succ ?_; simp only [dom_meet.l0]; exact Ev.ifp trivial Ev.pure
    have l2 : Ev (fun k => dom_meet.l2 k (tl S.length T) (li S.length at_) (a : Int) (a : Int)) (a : Int) := by
      refine Ev.succ ?_; simp only [dom_meet.l2]
      exact Ev.ifp (by omega) (Ev.ifp (by rw [li_length]; omega) (Ev.ifp (by omega) (Ev.ifp (by rw [li_length]; omega) (Ev.ifn (by omega) l0))))
    have l1 : Ev (fun k => dom_meet.l1 k (tl S.length T) (li S.length at_) (a : Int) (a : Int)) (a : Int) := by
      refine Ev.succ ?_; simp only [dom_meet.l1]
      exact Ev.ifp (by omega) (Ev.ifp (by rw [li_length]; omega) (Ev.ifp (by omega) (Ev.ifp (by rw [li_length]; omega) (Ev.ifn (by omega) l2))))
    exact ⟨⟨a, l0, hl⟩, ⟨a, l1, hl⟩, ⟨a, l2, hl⟩⟩
  | succ N ih =>
    intro a b a' b' hN ha hb
    have hal := (hI.rch _ _ ha).lt hG hr
    have hbl := (hI.rch _ _ hb).lt hG hr
    have pass1 : ∀ {v : Int}, at_ a ≤ at_ b → Ev (fun k => dom_meet.l2 k (tl S.length T) (li S.length at_) (a : Int) (b : Int)) v → Ev (fun k => dom_meet.l1 k (tl S.length T) (li S.length at_) (a : Int) (b : Int)) v := by
      intro v hle h
      refine Ev.succ ?_; simp only [dom_meet.l1]
      exact Ev.ifp (by omega) (Ev.ifp (by rw [li_length]; omega) (Ev.ifp (by omega) (Ev.ifp (by rw [li_length]; omega) (Ev.ifn (by rw [rd_li _ hal, rd_li _ hbl]; omega) h))))
    have pass2 : ∀ {v : Int}, at_ b ≤ at_ a → Ev (fun k => dom_meet.l0 k (tl S.length T) (li S.length at_) (a : Int) (b : Int)) v → Ev (fun k => dom_meet.l2 k (tl S.length T) (li S.length at_) (a : Int) (b : Int)) v := by
      intro v hle h
      refine Ev.succ ?_; simp only [dom_meet.l2]
      exact Ev.ifp (by omega) (Ev.ifp (by rw [li_length]; omega) (Ev.ifp (by omega) (Ev.ifp (by rw [li_length]; omega) (Ev.ifn (by rw [rd_li _ hal, rd_li _ hbl]; omega) h))))
    have pass0 : ∀ {v : Int}, a ≠ b → Ev (fun k => dom_meet.l1 k (tl S.length T) (li S.length at_) (a : Int) (b : Int)) v → Ev (fun k => dom_meet.l0 k (tl S.length T) (li S.length at_) (a : Int) (b : Int)) v := by
      intro v hne h
      refine Ev.succ ?_; simp only [dom_meet.l0]
      exact Ev.ifn (by omega) h
    rcases Nat.lt_trichotomy (at_ a) (at_ b) with hlt | heq | hgt
    · have hbr : b ≠ r := by rintro rfl; omega
      obtain ⟨h1, z, h2⟩ := hI.lt b b' hb hbr
      have hb'l := (hI.rch _ _ h2).lt hG hr
      obtain ⟨_, _, m, h3, h4⟩ := ih a b' a' z (by omega) ha h2
      have h5 := lca_right hI hb hbr hlt h4
      have l2 : Ev (fun k => dom_meet.l2 k (tl S.length T) (li S.length at_) (a : Int) (b : Int)) (m : Int) := by
        refine Ev.succ ?_; simp only [dom_meet.l2]
        refine Ev.ifp (by omega) (Ev.ifp (by rw [li_length]; omega) (Ev.ifp (by omega) (Ev.ifp (by rw [li_length]; omega) (Ev.ifp (by rw [rd_li _ hal, rd_li _ hbl]; omega) (Ev.ifp (by rw [tl_length]; omega) ?_)))))
        rw [rd_tl _ hbl, tv_some hb]; exact h3
      have l1 := pass1 (by omega) l2
      exact ⟨⟨m, pass0 (by rintro rfl; omega) l1, h5⟩, ⟨m, l1, h5⟩, ⟨m, l2, h5⟩⟩
    · have e : a = b := hP.inj a b (hI.rch _ _ ha) (hI.rch _ _ hb) heq
      subst e
      have hl : Lca T r a a a := ⟨.refl ha, .refl ha, fun c h _ => h⟩
      have l0 : Ev (fun k => dom_meet.l0 k (tl S.length T) (li S.length at_) (a : Int) (a : Int)) (a : Int) := by
        refine Ev.succ ?_; simp only [dom_meet.l0]; exact Ev.ifp trivial Ev.pure
      have l2 := pass2 (by omega) l0
      exact ⟨⟨a, l0, hl⟩, ⟨a, pass1 (by omega) l2, hl⟩, ⟨a, l2, hl⟩⟩
    · have har : a ≠ r := by rintro rfl; omega
      obtain ⟨h1, z, h2⟩ := hI.lt a a' ha har
      obtain ⟨_, ⟨m, h3, h4⟩, _⟩ := ih a' b z b' (by omega) h2 hb
      have h5 := lca_left hI ha har hgt h4
      have l1 : Ev (fun k => dom_meet.l1 k (tl S.length T) (li S.length at_) (a : Int) (b : Int)) (m : Int) := by
        refine Ev.succ ?_; simp only [dom_meet.l1]
        refine Ev.ifp (by omega) (Ev.ifp (by rw [li_length]; omega) (Ev.ifp (by omega) (Ev.ifp (by rw [li_length]; omega) (Ev.ifp (by rw [rd_li _ hal, rd_li _ hbl]; omega) (Ev.ifp (by rw [tl_length]; omega) ?_)))))
        rw [rd_tl _ hal, tv_some ha]; exact h3
      have l0 := pass0 (by rintro rfl; omega) l1
      exact ⟨⟨m, l0, h5⟩, ⟨m, l1, h5⟩, ⟨m, pass2 (by omega) l0, h5⟩⟩
theorem meet3 (hG : Gr S) (hr : r < S.length) (hP : Pl S r at_ par) (h0 : at_ r = 0) (hI : Inv S r at_ par T) {a b a' b' : Nat} (ha : T a = some a') (hb : T b = some b') :
    ∃ m : Nat, Ev (fun k => dom_meet.f k (tl S.length T) (li S.length at_) (a : Int) (b : Int)) (m : Int) ∧ Lca T r a b m := by
  unfold dom_meet.f
  exact (meet_all hG hr hP h0 hI _ a b a' b' (Nat.le_refl _) ha hb).1

/-! #### the best one of those from which one comes -/
/-- What is best of some blocks from which one comes: nothing, or the nearest one over all that there is of them. -/
def BestOf (T : Tr) (r : Nat) (ps : List Nat) (best : Int) : Prop :=
  ((∀ p ∈ ps, T p = none) ∧ best = -2) ∨ ∃ b : Nat, best = (b : Int) ∧ (∃ z, T b = some z) ∧ (∀ p ∈ ps, ∀ z, T p = some z → An T r b p) ∧ ∀ c, (∀ p ∈ ps, ∀ z, T p = some z → An T r c p) → An T r c b
theorem bestOf_nil : BestOf T r [] (-2) := .inl ⟨by simp, rfl⟩
theorem tree_l3 (hG : Gr S) (hr : r < S.length) (hP : Pl S r at_ par) (h0 : at_ r = 0) (hI : Inv S r at_ par T) {x : Nat} (hx : x < S.length) (o y : List Int) (i : Int) (v : List Int)
    (d : Nat) : ∀ (j : Nat) (best : Int), ((pr S).getD x []).length - j = d → j ≤ ((pr S).getD x []).length → BestOf T r (((pr S).getD x []).take j) best →
    (∀ best', BestOf T r ((pr S).getD x []) best' → Ev (fun k => if tv T x = best' then dom_Tree.l2 k (r : Int) o (tl S.length T) (li S.length at_) y (y.length : Int) (wrap64 (i + 1)) (up2 S) (up2 (pr S)) else dom_Tree.l1 k (r : Int) o ((tl S.length T).set x best') (li S.length at_) (up2 S) (up2 (pr S))) v) →
    Ev (fun k => dom_Tree.l3 k (r : Int) o (tl S.length T) (li S.length at_) (x : Int) best y (y.length : Int) i (up ((pr S).getD x [])) ((up ((pr S).getD x [])).length : Int) (j : Int) (up2 S) (up2 (pr S))) v := by
  have hlen : ((pr S).getD x []).length ≤ 64 := gr_len (gr_pr hG) (by rw [pr_length]; exact hx)
  induction d with
  | zero =>
    intro j best hd hj hB hK
    refine Ev.succ ?_; simp only [dom_Tree.l3]
    refine Ev.ifn (by rw [up_length]; omega) (Ev.ifp (by omega) (Ev.ifp (by rw [tl_length]; omega) ?_))
    rw [rd_tl _ hx, Int.toNat_natCast]
    rw [List.take_of_length_le (by omega)] at hB
    exact hK best hB
  | succ d ih =>
    intro j best hd hj hB hK
    have hj1 : j < ((pr S).getD x []).length := by omega
    have hmem : ((pr S).getD x []).getD j 0 ∈ (pr S).getD x [] := getD_mem hj1
    have hp := (mem_pr hx).mp hmem
    have htk := take_getD ((pr S).getD x []) j 0 hj1
    refine Ev.succ ?_; simp only [dom_Tree.l3]
    rw [rd_up]
    generalize ((pr S).getD x []).getD j 0 = p at hmem hp htk
    have hstep : ∀ best', BestOf T r (((pr S).getD x []).take (j + 1)) best' → Ev (fun k => dom_Tree.l3 k (r : Int) o (tl S.length T) (li S.length at_) (x : Int) best' y (y.length : Int) i (up ((pr S).getD x [])) ((up ((pr S).getD x [])).length : Int) (wrap64 ((j : Int) + 1)) (up2 S) (up2 (pr S))) v := by
      intro best' hB'
      rw [wrap_nat (by omega)]
      exact ih (j + 1) best' (by omega) (by omega) hB' hK
    refine Ev.ifp (by rw [up_length]; omega) (Ev.ifp (by omega) (Ev.ifp (by rw [up_length]; omega) (Ev.ifp (by omega) (Ev.ifp (by rw [tl_length]; omega) ?_))))
    rw [rd_tl _ hp.1]
    cases hT : T p with
    | none =>
      refine Ev.ifp (tv_none hT) (hstep best ?_)
      rw [htk]
      rcases hB with ⟨h1, h2⟩ | ⟨b, h1, h2, h3, h4⟩
      · refine .inl ⟨fun q hq => ?_, h2⟩
        rcases List.mem_append.mp hq with e | e
        · exact h1 q e
        · rw [List.mem_singleton.mp e]; exact hT
      · refine .inr ⟨b, h1, h2, fun q hq z hz => ?_, fun c hc => h4 c (fun q hq => hc q (List.mem_append_left _ hq))⟩
        rcases List.mem_append.mp hq with e | e
        · exact h3 q e z hz
        · rw [List.mem_singleton.mp e, hT] at hz; cases hz
    | some p' =>
      refine Ev.ifn (by rw [tv_some hT]; omega) ?_
      rcases hB with ⟨h1, h2⟩ | ⟨b, h1, ⟨bz, h2⟩, h3, h4⟩
      · refine Ev.ifp h2 (hstep (p : Int) ?_)
        rw [htk]
        refine .inr ⟨p, rfl, ⟨p', hT⟩, fun q hq z hz => ?_, fun c hc => hc p (by simp) p' hT⟩
        rcases List.mem_append.mp hq with e | e
        · rw [h1 q e] at hz; cases hz
        · rw [List.mem_singleton.mp e]; exact .refl hT
      · refine Ev.ifn (by omega) ?_
        obtain ⟨m, g1, g2, g3, g4⟩ := meet3 hG hr hP h0 hI h2 hT
        rw [h1]
        refine Ev.bind g1 (hstep (m : Int) ?_)
        rw [htk]
        refine .inr ⟨m, rfl, g2.top, fun q hq z hz => ?_, fun c hc => g4 c (h4 c (fun q hq => hc q (List.mem_append_left _ hq))) (hc p (by simp) p' hT)⟩
        rcases List.mem_append.mp hq with e | e
        · exact g2.trans (h3 q e z hz)
        · rw [List.mem_singleton.mp e]; exact g3

/-! #### the whole -/
def wt (n : Nat) (at_ : Nat → Nat) (T : Tr) : Nat := ((List.range n).map (fun x => match T x with | none => n | some y => at_ y)).sum
theorem sum_le {l : List Nat} {f g : Nat → Nat} (h : ∀ x ∈ l, f x ≤ g x) : (l.map f).sum ≤ (l.map g).sum := by
  induction l with
  | nil => simp
  | cons x l ih =>
    have h1 := ih (fun y hy => h y (List.mem_cons_of_mem _ hy))
    have h2 := h x (List.mem_cons_self ..)
    simp only [List.map_cons, List.sum_cons]; omega
theorem sum_lt {l : List Nat} {f g : Nat → Nat} (h : ∀ x ∈ l, f x ≤ g x) {z : Nat} (hz : z ∈ l) (hl : f z < g z) : (l.map f).sum < (l.map g).sum := by
  induction l with
  | nil => cases hz
  | cons x l ih =>
    have h1 := sum_le (fun y hy => h y (List.mem_cons_of_mem x hy))
    have h2 := h x (List.mem_cons_self ..)
    simp only [List.map_cons, List.sum_cons]
    rcases List.mem_cons.mp hz with e | e
    · subst e; omega
    · have := ih (fun y hy => h y (List.mem_cons_of_mem _ hy)) e; omega
open Classical in
/-- A block's entry: the nearest of those that dominate it; -1: the root; -2: it isn't reached. -/
noncomputable def idv (S : List (List Nat)) (r x : Nat) : Int := if x = r then -1 else if h : ∃ z, Idm S r z x then (h.choose : Int) else -2
noncomputable def dtl (S : List (List Nat)) (r : Nat) : List Int := (List.range S.length).map (idv S r)
theorem idv_root : idv S r r = -1 := by simp [idv]
theorem idv_idm (hP : Pl S r at_ par) {x z : Nat} (hx : x ≠ r) (h : Idm S r z x) : idv S r x = (z : Int) := by
  have hex : ∃ z, Idm S r z x := ⟨z, h⟩
  unfold idv
  rw [if_neg hx, dif_pos hex, idm_unique hP hex.choose_spec h]
theorem idv_no {x : Nat} (hr : r < S.length) (hx : ¬ Rch S (-1) r x) : idv S r x = -2 := by
  unfold idv
  rw [if_neg (fun e => hx (by subst e; exact .base (by omega))), dif_neg (fun h => by obtain ⟨z, hz⟩ := h; exact hx hz.1.1)]
theorem tree_end (hP : Pl S r at_ par) (hr : r < S.length) (hI : Inv S r at_ par T) (hF : ∀ y, Rch S (-1) r y → y ≠ r → Fx S r T y) : (tl S.length T).set r (-1) = dtl S r := by
  refine set_map_range _ _ _ _ _ idv_root (fun j hj => ?_)
  by_cases hR : Rch S (-1) r j
  · obtain ⟨z, hz, _⟩ := hF j hR hj
    rw [tv_some hz]
    exact idv_idm hP hj (fix_idm hI hF j z hz hj)
  · rw [idv_no hr hR]
    cases hT : T j with
    | none => exact (tv_none hT).symm
    | some y => exact absurd (hI.rch _ _ hT) hR
theorem tree_go (hG : Gr S) (hr : r < S.length) (ha : Places (dfs S r) at_) (hP : Pl S r at_ par) (hI : Inv S r at_ par T)
    (hgo : ∀ T', Inv S r at_ par T' → wt S.length at_ T' < wt S.length at_ T → Ev (fun k => dom_Tree.l1 k (r : Int) (up (dfs S r)) (tl S.length T') (li S.length at_) (up2 S) (up2 (pr S))) (dtl S r)) :
    Ev (fun k => dom_Tree.l1 k (r : Int) (up (dfs S r)) (tl S.length T) (li S.length at_) (up2 S) (up2 (pr S))) (dtl S r) := by
  obtain ⟨tail, htail⟩ := dfs_head hG r
  have hle := hG.le
  have hdl := dfs_len hG hr
  have h0 : at_ r = 0 := by have := ha 0 (by rw [htail]; simp); rw [htail] at this; simpa using this
  have htl : tail.length + 1 = (dfs S r).length := by rw [htail]; simp
  have hget : ∀ i, (dfs S r).getD (i + 1) 0 = tail.getD i 0 := by intro i; rw [htail]; simp
  have hatn : ∀ y, Rch S (-1) r y → at_ y < S.length := by
    intro y hy
    obtain ⟨i, hi, e⟩ := mem_at ((dfs_mem hG hr y).mpr hy)
    rw [← e, ha i hi]; omega
  have l2 : ∀ (d i : Nat), tail.length - i = d → i ≤ tail.length → (∀ y, Rch S (-1) r y → at_ y ≤ i → y ≠ r → Fx S r T y) →
      Ev (fun k => dom_Tree.l2 k (r : Int) (up (dfs S r)) (tl S.length T) (li S.length at_) (up tail) ((up tail).length : Int) (i : Int) (up2 S) (up2 (pr S))) (dtl S r) := by
    intro d
    induction d with
    | zero =>
      intro i hd hi hF
      refine Ev.succ ?_; simp only [dom_Tree.l2]
      refine Ev.ifn (by rw [up_length]; omega) (Ev.ifp (by omega) (Ev.ifp (by rw [tl_length]; omega) (Ev.pure.of_eq ?_)))
      rw [Int.toNat_natCast]
      refine tree_end hP hr hI (fun y hy hyr => hF y hy ?_ hyr)
      obtain ⟨j, hj, e⟩ := mem_at ((dfs_mem hG hr y).mpr hy)
      rw [← e, ha j hj]; omega
    | succ d ih =>
      intro i hd hi hF
      have hi1 : i + 1 < (dfs S r).length := by omega
      have hmem : (dfs S r).getD (i + 1) 0 ∈ dfs S r := getD_mem hi1
      have hat := ha (i + 1) hi1
      rw [hget] at hmem hat
      have hxr : tail.getD i 0 ≠ r := by intro e; rw [e, h0] at hat; omega
      refine Ev.succ ?_; simp only [dom_Tree.l2]
      rw [rd_up]
      generalize tail.getD i 0 = x at hmem hat hxr
      have hxl := dfs_lt hG hr x hmem
      have hxR := (dfs_mem hG hr x).mp hmem
      have hF' : ∀ y, Rch S (-1) r y → at_ y < at_ x → y ≠ r → Fx S r T y := fun y hy hlt hyr => hF y hy (by omega) hyr
      refine Ev.ifp (by rw [up_length]; omega) (Ev.ifp (by omega) (Ev.ifp (by rw [up_length]; omega) (Ev.ifp (by omega) (Ev.ifp (by rw [up2_length, pr_length]; omega) ?_))))
      rw [rdL_up]
      refine tree_l3 hG hr hP h0 hI hxl (up (dfs S r)) (up tail) (i : Int) (dtl S r) _ 0 (-2) rfl (by omega) (by rw [List.take_zero]; exact bestOf_nil) (fun best hB => ?_)
      obtain ⟨pR, pS, pA⟩ := hP.par x hxR hxr
      have hpl := pR.lt hG hr
      obtain ⟨pz, hpz⟩ : ∃ z, T (par x) = some z := by
        by_cases e : par x = r
        · rw [e]; exact ⟨_, hI.root⟩
        · obtain ⟨z, hz, _⟩ := hF' _ pR pA e; exact ⟨z, hz⟩
      have hpm : par x ∈ (pr S).getD x [] := (mem_pr hxl).mpr ⟨hpl, pS⟩
      rcases hB with ⟨h1, _⟩ | ⟨b, h1, ⟨bz, h2⟩, h3, h4⟩
      · have := h1 _ hpm; rw [hpz] at this; cases this
      · have hall : ∀ p z, x ∈ S.getD p [] → T p = some z → p ∈ (pr S).getD x [] := fun p z hp hz => (mem_pr hxl).mpr ⟨(hI.rch _ _ hz).lt hG hr, hp⟩
        have hBest : Best S r T x b := ⟨fun p y hp hy => h3 p (hall p y hp hy) y hy, fun c hc => h4 c (fun p hp z hz => hc p z ((mem_pr hxl).mp hp).2 hz)⟩
        subst h1
        by_cases e : tv T x = (b : Int)
        · refine Ev.ifp e ?_
          rw [wrap_nat (by omega)]
          refine ih (i + 1) (by omega) (by omega) (fun y hy hyi hyr => ?_)
          by_cases e2 : at_ y ≤ i
          · exact hF y hy e2 hyr
          · have e3 : y = x := hP.inj y x hy hxR (by omega)
            subst e3
            refine ⟨b, ?_, hBest.1⟩
            cases hT : T y with
            | none => rw [tv_none hT] at e; omega
            | some q => rw [tv_some hT] at e; rw [Int.ofNat_inj.mp e]
        · refine Ev.ifn e ?_
          rw [set_tl]
          obtain ⟨g1, g2⟩ := step_inv hP hI hxR hxr hF' hBest
          refine hgo _ g1 ?_
          have hbn := hatn b (hI.rch _ _ h2)
          have hlt : at_ b < (match T x with | none => S.length | some y => at_ y) := by
            cases hT : T x with
            | none => exact hbn
            | some q => exact g2 q hT (fun e4 => e (by rw [tv_some hT, e4]))
          refine sum_lt (fun y _ => ?_) (List.mem_range.mpr hxl) (by simp only [put_self]; exact hlt)
          by_cases e5 : y = x
          · subst e5; simp only [put_self]; exact Nat.le_of_lt hlt
          · rw [put_ne e5]; exact Nat.le_refl _
  refine Ev.succ ?_; simp only [dom_Tree.l1]
  refine Ev.ifp (by rw [up_length]; omega) ?_
  simp only [Option.bind_some]
  have e : (up (dfs S r)).drop 1 = up tail := by rw [htail]; simp [up]
  rw [e]
  refine l2 _ 0 rfl (by omega) (fun y hy hy0 hyr => ?_)
  exact absurd (hP.inj y r hy (.base (by omega)) (by omega)) hyr
theorem tree_l1 (hG : Gr S) (hr : r < S.length) (ha : Places (dfs S r) at_) (hP : Pl S r at_ par) : ∀ (M : Nat) (T : Tr), Inv S r at_ par T → wt S.length at_ T < M →
    Ev (fun k => dom_Tree.l1 k (r : Int) (up (dfs S r)) (tl S.length T) (li S.length at_) (up2 S) (up2 (pr S))) (dtl S r) := by
  intro M
  induction M with
  | zero => intro T _ h; omega
  | succ M ih => intro T hI hM; exact tree_go hG hr ha hP hI (fun T' hI' h => ih T' hI' (by omega))
theorem tree_l0 (hG : Gr S) (hr : r < S.length) (d : Nat) : ∀ (i : Nat) (f : Nat → Nat), (dfs S r).length - i = d → i ≤ (dfs S r).length → (∀ j, j < i → f ((dfs S r).getD j 0) = j) →
    Ev (fun k => dom_Tree.l0 k (r : Int) (up (dfs S r)) (List.replicate S.length (-2)) (li S.length f) (up (dfs S r)) ((up (dfs S r)).length : Int) (i : Int) (up2 S) (up2 (pr S))) (dtl S r) := by
  have hle := hG.le
  have hdl := dfs_len hG hr
  induction d with
  | zero =>
    intro i f hd hi hf
    have ha : Places (dfs S r) f := fun j hj => hf j (by omega)
    obtain ⟨par, hP⟩ := dfs_pl hG hr ha
    refine Ev.succ ?_; simp only [dom_Tree.l0]
    refine Ev.ifn (by rw [up_length]; omega) (Ev.ifp (by omega) (Ev.ifp (by simp; omega) ?_))
    have e : (List.replicate S.length (-2 : Int)).set ((r : Int)).toNat (r : Int) = tl S.length (put (fun _ => none) r r) := by
      have e1 : List.replicate S.length (-2 : Int) = tl S.length (fun _ => none) := by
        apply List.ext_getElem
        · simp
        · intro j h1 h2; simp [tl, tv]
      rw [e1, Int.toNat_natCast, set_tl]
    rw [e]
    have hI : Inv S r f par (put (fun _ => none) r r) := by
      have hn : ∀ {x y : Nat}, put (fun _ => none) r r x = some y → x = r := by
        intro x y h
        by_cases e : x = r
        · exact e
        · rw [put_ne e] at h; cases h
      exact ⟨put_self _ _ _, fun x y h => by rw [hn h]; exact .base (by omega), fun x y h hx => absurd (hn h) hx, fun x y h hx => absurd (hn h) hx, fun x y h hx => absurd (hn h) hx, fun x y h hx => absurd (hn h) hx⟩
    exact tree_l1 hG hr ha hP _ _ hI (Nat.lt_succ_self _)
  | succ d ih =>
    intro i f hd hi hf
    have hi1 : i < (dfs S r).length := by omega
    have hmem : (dfs S r).getD i 0 ∈ dfs S r := getD_mem hi1
    have hxl := dfs_lt hG hr _ hmem
    refine Ev.succ ?_; simp only [dom_Tree.l0]
    rw [rd_up]
    refine Ev.ifp (by rw [up_length]; omega) (Ev.ifp (by omega) (Ev.ifp (by rw [up_length]; omega) (Ev.ifp (by omega) (Ev.ifp (by rw [li_length]; omega) ?_))))
    rw [Int.toNat_natCast, set_li, wrap_nat (by omega)]
    refine ih (i + 1) _ (by omega) (by omega) (fun j hj => ?_)
    unfold updn'
    by_cases e : (dfs S r).getD j 0 = (dfs S r).getD i 0
    · rw [if_pos e]
      have hj1 : j < (dfs S r).length := by omega
      have hnd := dfs_nodup hG hr
      rw [List.getD_eq_getElem?_getD, List.getD_eq_getElem?_getD, List.getElem?_eq_getElem hj1, List.getElem?_eq_getElem hi1] at e
      exact (nodup_inj hnd hj1 hi1 e).symm
    · rw [if_neg e]
      exact hf j (by have : j ≠ i := fun e2 => e (by rw [e2]); omega)
theorem tree_ok (hG : Gr S) (hr : r < S.length) : Ev (fun k => dom_Tree.f k (up2 S) (up2 (pr S)) (r : Int)) (dtl S r) := by
  have hle := hG.le
  obtain ⟨tail, htail⟩ := dfs_head hG r
  unfold dom_Tree.f
  refine Ev.bind (order_ok hG hr) (Ev.ifn (by rw [up_length, htail]; simp; omega) ?_)
  have e1 : slices_Repeat_int_int.f ([(-2)] : List Int) ((up2 S).length : Int) = some (List.replicate S.length (-2)) := by
    unfold slices_Repeat_int_int.f
    rw [if_pos ⟨rfl, by rw [up2_length]; have := hG.pos; omega, by rw [up2_length]; omega⟩, up2_length, Int.toNat_natCast]; rfl
  rw [e1]
  simp only [Option.bind_some]
  refine Ev.ifp (by omega) (Ev.ifp (by rw [up2_length]; omega) ?_)
  have e2 : List.replicate ((up2 S).length : Int).toNat (0 : Int) = li S.length (fun _ => 0) := by
    rw [up2_length, Int.toNat_natCast]
    apply List.ext_getElem
    · simp
    · intro j h1 h2; simp [li]
  rw [e2]
  exact tree_l0 hG hr _ 0 _ rfl (by omega) (fun j hj => by omega)
theorem tree_no {s p : List (List Int)} {r : Int} (ho : Ev (fun k => graph_Order.f k s p r) []) : Ev (fun k => dom_Tree.f k s p r) [] := by
  unfold dom_Tree.f
  exact Ev.bind ho (Ev.ifp rfl Ev.pure)
end

@[simp] theorem dtl_length (S : List (List Nat)) (r : Nat) : (dtl S r).length = S.length := by simp [dtl]
theorem rd_dtl {S : List (List Nat)} {r x : Nat} (h : x < S.length) : rd (dtl S r) (x : Int) = idv S r x := by
  simp only [rd, Int.toNat_natCast, dtl]; exact getD_map_range _ _ _ _ h
/-- A graph, its root, and places by its order. -/
structure Gd (S : List (List Nat)) (r : Nat) (at_ par : Nat → Nat) : Prop where
  gr : Gr S
  lt : r < S.length
  pl : Pl S r at_ par
  at0 : at_ r = 0
  atn : ∀ x, Rch S (-1) r x → at_ x < S.length
  idm : ∀ x, Rch S (-1) r x → x ≠ r → ∃ z, Idm S r z x
theorem places_ex {S : List (List Nat)} (h : Gr S) {r : Nat} (hr : r < S.length) : ∃ at_, Places (dfs S r) at_ := by
  refine ⟨fun x => (dfs S r).findIdx (fun y => decide (y = x)), fun j hj => ?_⟩
  have hex : ∃ y ∈ dfs S r, decide (y = (dfs S r).getD j 0) = true := ⟨(dfs S r).getD j 0, getD_mem hj, by simp⟩
  have h1 := List.findIdx_lt_length_of_exists hex
  have h2 := List.findIdx_getElem (w := h1)
  have h3 : (dfs S r)[j] = (dfs S r).getD j 0 := by rw [List.getD_eq_getElem?_getD, List.getElem?_eq_getElem hj]; rfl
  refine nodup_inj (dfs_nodup h hr) h1 hj ?_
  rw [h3]; exact of_decide_eq_true h2
theorem dm_last {S : List (List Nat)} {r d e : Nat} (hde : d ≠ e) {x : Nat} (h : Rch S (-1) r x) : Rch S (d : Int) r x ∨ Rch S (e : Int) d x ∨ Rch S (d : Int) e x := by
  induction h with
  | base _ =>
    by_cases e1 : r = d
    · subst e1; exact .inr (.inl (.base (by omega)))
    · by_cases e2 : r = e
      · subst e2; exact .inr (.inr (.base (by omega)))
      · exact .inl (.base (by omega))
  | @step a y _ hy _ ih =>
    by_cases e1 : y = d
    · subst e1; exact .inr (.inl (.base (by omega)))
    · by_cases e2 : y = e
      · subst e2; exact .inr (.inr (.base (by omega)))
      · rcases ih with h | h | h
        · exact .inl (.step h hy (by omega))
        · exact .inr (.inl (.step h hy (by omega)))
        · exact .inr (.inr (.step h hy (by omega)))
/-- Of two that dominate one, one dominates the other one. -/
theorem dm_line {S : List (List Nat)} {r d e x : Nat} (hd : Dm S r d x) (he : Dm S r e x) : Dm S r d e ∨ Dm S r e d := by
  by_cases hde : d = e
  · subst hde; exact .inl (dm_refl (dm_rch hd))
  · rcases dm_last hde hd.1 with h | h | h
    · exact absurd h hd.2
    · exact .inr ⟨dm_rch hd, fun h' => he.2 (h'.trans h)⟩
    · exact .inl ⟨dm_rch he, fun h' => hd.2 (h'.trans h)⟩
/-- The nearest dominator is there. -/
theorem idm_ex {S : List (List Nat)} {r : Nat} {at_ par : Nat → Nat} (hP : Pl S r at_ par) {x : Nat} (hx : Rch S (-1) r x) (hxr : x ≠ r) : ∃ z, Idm S r z x := by
  have key : ∀ (n z : Nat), Dm S r z x → z ≠ x → at_ x - at_ z ≤ n → ∃ z', Dm S r z' x ∧ z' ≠ x ∧ ∀ d, Dm S r d x → d ≠ x → at_ d ≤ at_ z' := by
    intro n
    induction n with
    | zero =>
      intro z hz hne hn
      have h1 := dm_le hP _ _ (Nat.le_refl _) hz
      exact absurd (hP.inj z x (dm_rch hz) hx (by omega)) hne
    | succ n ih =>
      intro z hz hne hn
      by_cases hex : ∃ d, Dm S r d x ∧ d ≠ x ∧ at_ z < at_ d
      · obtain ⟨d, h1, h2, h3⟩ := hex
        exact ih d h1 h2 (by have := dm_le hP _ _ (Nat.le_refl _) h1; omega)
      · exact ⟨z, hz, hne, fun d h1 h2 => Nat.le_of_not_lt (fun h3 => hex ⟨d, h1, h2, h3⟩)⟩
  obtain ⟨z, h1, h2, h3⟩ := key _ r (dm_root hx) (fun e => hxr e.symm) (Nat.le_refl _)
  refine ⟨z, h1, h2, fun d hd hdx => ?_⟩
  rcases dm_line hd h1 with h | h
  · exact h
  · have h4 := dm_le hP _ _ (Nat.le_refl _) h
    have h5 := h3 d hd hdx
    rw [hP.inj d z (dm_rch hd) (dm_rch h1) (by omega)]; exact dm_refl (dm_rch h1)
theorem gd_of {S : List (List Nat)} {r : Nat} (hG : Gr S) (hr : r < S.length) {at_ : Nat → Nat} (ha : Places (dfs S r) at_) : ∃ par, Gd S r at_ par := by
  obtain ⟨par, hP⟩ := dfs_pl hG hr ha
  refine ⟨par, hG, hr, hP, ?_, ?_, ?_⟩
  · obtain ⟨tail, htail⟩ := dfs_head hG r; have := ha 0 (by rw [htail]; simp); rw [htail] at this; simpa using this
  · intro y hy
    obtain ⟨i, hi, e⟩ := mem_at ((dfs_mem hG hr y).mpr hy)
    rw [← e, ha i hi]; have := dfs_len hG hr; omega
  · exact fun x hx hxr => idm_ex hP hx hxr
theorem gd_ex {S : List (List Nat)} {r : Nat} (hG : Gr S) (hr : r < S.length) : ∃ at_ par, Gd S r at_ par := by
  obtain ⟨at_, ha⟩ := places_ex hG hr
  exact ⟨at_, gd_of hG hr ha⟩


/-- No block that is reached reaches itself. -/
def Ac (S : List (List Nat)) (r : Nat) : Prop := ∀ a, Rch S (-1) r a → ∀ y ∈ S.getD a [], ¬ Rch S (-1) y a
mutual
theorem visit_ac {S : List (List Nat)} (h : Gr S) {r : Nat} (ac : Ac S r) : ∀ (f x : Nat) (st : Sn × List Nat), x < S.length → Rch S (-1) r x → st.1 x = false → cnt S.length st.1 ≤ f → Ord S st.2 → (∀ z, st.1 z = true → z ∈ st.2 ∨ Rch S (-1) z x) → Ord S (visit S f x st).2
  | 0, x, st, hx, _, hs, hc, _, _ => by have := cnt_pos hx hs; omega
  | f + 1, x, st, hx, hr, hs, hc, ho, hlt => by
    have hu := cnt_upd hx hs
    have hcu : cnt S.length (upd st.1 x) ≤ f := by omega
    rw [visit_succ]
    obtain ⟨h1, h2⟩ := steps_ac h ac f x (S.getD x []) (upd st.1 x, st.2) hr (fun y hm => ⟨(h.row x hx).2 y hm, hm⟩) hcu ho (fun z hz => by
      rcases upd_true.mp hz with e | e
      · subst e; exact .inr (.base (by omega))
      · exact hlt z e)
    refine ord_snoc h1 (fun y hm => ?_)
    rcases h2 y (steps_seen h f _ _ (h.row x hx).2 hcu y hm) with e | e
    · exact e
    · exact absurd e (ac x hr y hm)
theorem steps_ac {S : List (List Nat)} (h : Gr S) {r : Nat} (ac : Ac S r) : ∀ (f x : Nat) (l : List Nat) (st : Sn × List Nat), Rch S (-1) r x → (∀ y ∈ l, y < S.length ∧ y ∈ S.getD x []) → cnt S.length st.1 ≤ f → Ord S st.2 → (∀ z, st.1 z = true → z ∈ st.2 ∨ Rch S (-1) z x) →
    Ord S (steps S f l st).2 ∧ ∀ z, (steps S f l st).1 z = true → z ∈ (steps S f l st).2 ∨ Rch S (-1) z x
  | _, _, [], _, _, _, _, ho, hlt => ⟨ho, hlt⟩
  | f, x, y :: l, st, hr, hl, hc, ho, hlt => by
    rw [steps_cons]
    have hl' : ∀ y ∈ l, y < S.length ∧ y ∈ S.getD x [] := fun z hz => hl z (List.mem_cons_of_mem _ hz)
    by_cases hy : st.1 y = true
    · rw [if_pos hy]; exact steps_ac h ac f x l st hr hl' hc ho hlt
    · rw [if_neg hy]
      have hy' : st.1 y = false := by simpa using hy
      obtain ⟨hyn, hyx⟩ := hl y (List.mem_cons_self ..)
      have h1 := (visit_vis h f y st hyn hy' hc).1
      have hc' : cnt S.length (visit S f y st).1 ≤ f := Nat.le_trans (cnt_le (fun z hz => h1.mono hz)) hc
      refine steps_ac h ac f x l _ hr hl' hc' (visit_ac h ac f y st hyn (.step hr hyx (by omega)) hy' hc ho (fun z hz => ?_)) (fun z hz => ?_)
      · rcases hlt z hz with e | e
        · exact .inl e
        · exact .inr (.step e hyx (by omega))
      · obtain ⟨n, e1, e2, _⟩ := h1.new
        rw [e1]
        rcases (e2 z).mp hz with e | e
        · rcases hlt z e with e | e
          · exact .inl (List.mem_append.mpr (.inl e))
          · exact .inr e
        · exact .inl (List.mem_append.mpr (.inr e))
end
theorem dfs_ac {S : List (List Nat)} (h : Gr S) {r : Nat} (hr : r < S.length) (ac : Ac S r) : ∀ l a t, dfs S r = t ++ a :: l → ∀ y ∈ S.getD a [], y ∈ l := by
  intro l a t e y hy
  have h1 := visit_ac h ac S.length r (none', []) hr (.base (by omega)) rfl (Nat.le_of_eq (cnt_none _)) (fun l a t e => by simp at e) (fun z hz => by cases hz)
  have e2 : (visit S S.length r (none', [])).2 = l.reverse ++ a :: t.reverse := by
    have := congrArg List.reverse e
    rw [dfs, List.reverse_reverse] at this
    rw [this]; simp
  exact List.mem_reverse.mp (h1 _ _ _ e2 y hy)
theorem getD_split {l : List Nat} {i : Nat} (h : i < l.length) : l = l.take i ++ l.getD i 0 :: l.drop (i + 1) := by
  rw [← drop_getD l i 0 h, List.take_append_drop]
/-- The order's places go up along each way on. -/
def Fw (S : List (List Nat)) (r : Nat) (at_ : Nat → Nat) : Prop := ∀ x, Rch S (-1) r x → ∀ y ∈ S.getD x [], at_ x < at_ y
theorem ac_fw {S : List (List Nat)} (h : Gr S) {r : Nat} (hr : r < S.length) {at_ : Nat → Nat} (ha : Places (dfs S r) at_) : Ac S r ↔ Fw S r at_ := by
  constructor
  · intro ac x hx y hy
    obtain ⟨i, hi, e⟩ := mem_at ((dfs_mem h hr x).mpr hx)
    have h1 := dfs_ac h hr ac _ _ _ (getD_split hi) y (by rw [e]; exact hy)
    obtain ⟨j, hj, e2⟩ := mem_at h1
    rw [List.length_drop] at hj
    have e3 : ((dfs S r).drop (i + 1)).getD j 0 = (dfs S r).getD (i + 1 + j) 0 := by
      rw [List.getD_eq_getElem?_getD, List.getElem?_drop, ← List.getD_eq_getElem?_getD]
    rw [e3] at e2
    rw [← e, ← e2, ha i hi, ha (i + 1 + j) (by omega)]; omega
  · intro fw a hra y hy hya
    have key : ∀ b, Rch S (-1) y b → Rch S (-1) r b ∧ at_ y ≤ at_ b := by
      intro b hb
      induction hb with
      | base _ => exact ⟨.step hra hy (by omega), Nat.le_refl _⟩
      | @step c z _ hz _ ih => exact ⟨.step ih.1 hz (by omega), by have := fw c ih.1 z hz; omega⟩
    have h1 := fw a hra y hy
    have h2 := (key a hya).2
    omega

/-- A way back. -/
def Bck (S : List (List Nat)) (a b : Nat) : Prop := b ∈ S.getD a [] ∧ Dm S 0 b a
/-- A block of a head's loop. -/
def Lp (S : List (List Nat)) (h x : Nat) : Prop := x = h ∨ (Rch S (-1) 0 x ∧ ∃ l, Bck S l h ∧ Rch S (h : Int) x l)
theorem Rch.last {S : List (List Nat)} {w : Int} {a b : Nat} (h : Rch S w a b) : (b : Int) ≠ w := by cases h <;> assumption
theorem Rch.first {S : List (List Nat)} {w : Int} {a b : Nat} (h : Rch S w a b) : (a : Int) ≠ w := by
  induction h with
  | base h => exact h
  | step _ _ _ ih => exact ih
theorem Rch.any {S : List (List Nat)} {w : Int} {a b : Nat} (h : Rch S w a b) : Rch S (-1) a b := by
  induction h with
  | base _ => exact .base (by omega)
  | step _ hy _ ih => exact .step ih hy (by omega)
/-- A way that may come through d: it doesn't, or the rest behind d is told. -/
theorem Rch.avoid {S : List (List Nat)} {w : Int} {a b d : Nat} (h : Rch S w a b) : Rch S (d : Int) a b ∨ Rch S w d b := by
  induction h with
  | base h =>
    by_cases e : a = d
    · subst e; exact .inr (.base h)
    · exact .inl (.base (by omega))
  | @step c y _ hy hw ih =>
    by_cases e : y = d
    · subst e; exact .inr (.base hw)
    · rcases ih with ih | ih
      · exact .inl (.step ih hy (by omega))
      · exact .inr (.step ih hy hw)
section
variable {S : List (List Nat)} {at_ par : Nat → Nat}
/-- What leads to a block without one of those that dominate it begins at a block that that one dominates. -/
theorem dm_into {h x l : Nat} (hl : Dm S 0 h l) (hx : Rch S (-1) 0 x) (hw : Rch S (h : Int) x l) : Dm S 0 h x :=
  ⟨hx, fun h' => hl.2 (h'.trans hw)⟩
theorem lp_dm {h x : Nat} (hh : Rch S (-1) 0 h) (hx : Lp S h x) : Dm S 0 h x := by
  rcases hx with rfl | ⟨h1, l, h2, h3⟩
  · exact dm_refl hh
  · exact dm_into h2.2 h1 h3
theorem lp_rch {h x : Nat} (hh : Rch S (-1) 0 h) (hx : Lp S h x) : Rch S (-1) 0 x := (lp_dm hh hx).1
/-- From a block one comes to another one, without a third: from what dominates the other one, if the third dominates the first. -/
theorem dm_way {h k x : Nat} (hkh : h ≠ k) (hd : Dm S 0 h k) (hk : Dm S 0 k x) (hP : Pl S 0 at_ par) : Rch S (h : Int) k x := by
  have h1 : ∀ y, Rch S (-1) 0 y → Rch S (k : Int) 0 y ∨ Rch S (h : Int) k y ∨ Rch S (k : Int) h y := by
    intro y hy
    exact dm_last (d := k) (e := h) (fun e => hkh e.symm) hy
  rcases h1 x hk.1 with h2 | h2 | h2
  · exact absurd h2 hk.2
  · exact h2
  · have h3 : ¬ Dm S 0 k h := fun hc => hkh (dm_antisymm hP hd hc)
    have h4 : Rch S (k : Int) 0 h := Classical.byContradiction (fun hn => h3 ⟨dm_rch hd, hn⟩)
    exact absurd (h4.trans h2) hk.2
theorem lp_within {h k x : Nat} (hP : Pl S 0 at_ par) (hne : h ≠ k) (hkr : Rch S (-1) 0 k) (hd : Dm S 0 h k) (hx : Lp S h x) (hkx : Lp S k x) : ∀ y, Lp S k y → Lp S h y := by
  -- x is not h: else k dominates h, too
  have hkx' := lp_dm hkr hkx
  have hxh : x ≠ h := by
    rintro rfl
    exact hne (dm_antisymm hP hd hkx')
  obtain ⟨hx1, l, hl, hxl⟩ := hx.resolve_left hxh
  have hkxw : Rch S (h : Int) k x := dm_way hne hd hkx' hP
  have hkl : Rch S (h : Int) k l := hkxw.trans hxl
  intro y hy
  rcases hy with rfl | ⟨hy1, m, hm, hym⟩
  · exact .inr ⟨hkr, l, hl, hkl⟩
  · refine .inr ⟨hy1, l, hl, ?_⟩
    -- from y to m without h
    have hyk := dm_into hm.2 hy1 hym
    have h3 : ¬ Dm S 0 k h := fun hc => hne (dm_antisymm hP hd hc)
    have h4 : Rch S (k : Int) 0 h := Classical.byContradiction (fun hn => h3 ⟨dm_rch hd, hn⟩)
    have hymh : Rch S (h : Int) y m := by
      rcases hym.avoid (d := h) with h5 | h5
      · exact h5
      · exact absurd (h4.trans h5) hm.2.2
    exact (hymh.trans (.step (.base hymh.last) hm.1 (by omega))).trans hkl
/-- Two loops of different heads that have a block in common: one lies within the other one. -/
theorem lp_nest {h k x : Nat} (hP : Pl S 0 at_ par) (hhr : Rch S (-1) 0 h) (hkr : Rch S (-1) 0 k) (hx : Lp S h x) (hkx : Lp S k x) : (∀ y, Lp S k y → Lp S h y) ∨ (∀ y, Lp S h y → Lp S k y) := by
  by_cases hne : h = k
  · subst hne; exact .inl (fun y hy => hy)
  · rcases dm_line (lp_dm hhr hx) (lp_dm hkr hkx) with hd | hd
    · exact .inl (lp_within hP hne hkr hd hx hkx)
    · exact .inr (lp_within hP (fun e => hne e.symm) hhr hd hkx hx)
end
end Go.Proofs.Ytoekeknfeinphaa.GP
namespace Go.Proofs.Ytoekeknfeinphaa.G
open Go.Proofs.YtoekeknfeinphaaH
open Go.RowKit Go.Proofs.YtoekeknfeinphaaW.PrintWords Go.Proofs.YtoekeknfeinphaaW.PrintLast Go.Proofs.YtoekeknfeinphaaW.PrintMore
attribute [local go_sem] max2_int min2_int max_two min_two max_three min_three max_four min_four   -- for this text's walks alone
set_option linter.unusedVariables false
set_option linter.unusedSimpArgs false

/-! ### dom_Kids: function 27 -/
def dom_Kids.l0 : Nat → List Int → Int → List Int → List Int → Int → Int → Option (List Int)
 | 0, _, _, _, _, _, _ => none
 | k + 1, x0, x1, x5, x8, x9, x10 => if x10 < x9 then (if 0 ≤ x10 then (if x10 < (x8.length : Int) then (if (rd x8 x10) = x1 then ((dom_in.f k x0 (([x1] : List Int))).bind fun t697 => (if t697 = true then (if x5.length < 17592186044416 then (dom_Kids.l0 k x0 x1 (x5 ++ [x10]) x8 x9 (wrap64 (x10 + 1))) else (none)) else (dom_Kids.l0 k x0 x1 x5 x8 x9 (wrap64 (x10 + 1))))) else (dom_Kids.l0 k x0 x1 x5 x8 x9 (wrap64 (x10 + 1)))) else (none)) else (none)) else (some x5)
def dom_Kids.f (k : Nat) (l0 : List Int) (a1 : Int) : Option (List Int) := dom_Kids.l0 k l0 a1 ([] : List Int) l0 (l0.length : Int) 0
theorem dom_Kids.mono_l : ∀ k, (∀ y0 y1 y2 y3 y4 y5, LeO (dom_Kids.l0 k y0 y1 y2 y3 y4 y5) (dom_Kids.l0 (k + 1) y0 y1 y2 y3 y4 y5))
 | 0 => fun _ _ _ _ _ _ r h => by simp [dom_Kids.l0] at h
 | k + 1 => by
  have ih0 := dom_Kids.mono_l k
  ·intro y0 y1 y2 y3 y4 y5
   unfold dom_Kids.l0
   repeat' first
   | (with_reducible exact ih0 _ _ _ _ _ _)
   | (with_reducible exact dom_in.mono _ _ _)
   | (with_reducible exact LeO.refl _)
   | (with_reducible exact LeO.none _)
   | (with_reducible refine LeO.ite ?_ ?_)
   | (with_reducible refine LeO.bind ?_ (fun _ => ?_))
   | exact ih0 _ _ _ _ _ _
   | exact dom_in.mono _ _ _
   | exact LeO.none _
   | refine LeO.ite ?_ ?_
   | refine LeO.bind ?_ (fun _ => ?_)
theorem dom_Kids.mono : ∀ a0 a1 k, LeO (dom_Kids.f k a0 a1) (dom_Kids.f (k + 1) a0 a1) := by
 intro a0 a1 k
 have ih0 := dom_Kids.mono_l k
 unfold dom_Kids.f
 repeat' first
  | (with_reducible exact ih0 _ _ _ _ _ _)
  | (with_reducible exact dom_in.mono _ _ _)
  | (with_reducible exact LeO.refl _)
  | (with_reducible exact LeO.none _)
  | (with_reducible refine LeO.ite ?_ ?_)
  | (with_reducible refine LeO.bind ?_ (fun _ => ?_))
  | exact ih0 _ _ _ _ _ _
  | exact dom_in.mono _ _ _
  | exact LeO.none _
  | refine LeO.ite ?_ ?_
  | refine LeO.bind ?_ (fun _ => ?_)
set_option maxHeartbeats 8000000 in
set_option maxRecDepth 100000 in
theorem dom_Kids.calls (k : Nat) (A0 : Option Addr) (c0 : Nat) (l0 : List Int) (a1 : Int) (r : List Int) (w : World) (hr0 : Kd.C (Kd.int .i64) w A0 l0.length l0) (hc0 : l0.length ≤ c0) (h : dom_Kids.f k l0 a1 = some r) :
 Calls Try.prog 27 #[.slice A0 l0.length c0, .int .i64 a1] w fun e w' => ∃ v0_ : Value, e = .returned (v0_) ∧ Kd.R (Kd.int .i64) 3 w' w.heap.size (fun _ => True) v0_ r ∧ Below w.heap.size w w' := by
 have HR0 := Aside0.mk hr0
 have HC0 := Aside0.mk hc0
 clear hr0 hc0
 have HB := Aside0.mk (Below.refl w.heap.size w)
 have H : (dom_Kids.l0 k l0 a1 ([] : List Int) l0 (l0.length : Int) 0) = some r := h
 clear h
 have H' := Aside0.mk H
 clear H
 go_enter Try.func27, Try.ntmps27
 go_wp2
 go_loopg [5, 10] k (fun kq v5 v10 w' => ∃ (x5_1 : List Int) (x10_1 : Int), v10 = .int .i64 x10_1 ∧ Aside0 (dom_Kids.l0 kq l0 a1 x5_1 l0 (l0.length : Int) x10_1 = some r) ∧ Aside0 (kq ≤ k) ∧ Aside0 (Kd.R (Kd.int .i64) 3 w' w.heap.size (fun _ => True) v5 x5_1) ∧ Aside0 (Below w.heap.size w w'))
 case atStart => exact ⟨(([] : List Int)), (0), (by first | rfl | (simp; done) | (simp [*]; done)), H', ⟨Nat.le_refl _⟩, ⟨by first | exact Kd.R_nil _ _ _ _ _ | exact Kd.N_nil _ _ _ _ _ | exact Kd.V_nil _ _ _ _ _ | exact Kd.Q_nil _ _ _ _ _ | exact Kd.S_nil _ _ _ _ _⟩, ⟨B_⟩⟩
 case round =>
  clear H'
  obtain ⟨x5_1, x10_1, rfl, HA, HK1, HO_5, HB⟩ := hrel
  cases gk with
  | zero => exact absurd HA.out (by simp [dom_Kids.l0])
  | succ k1 =>
   have H := HA.out
   clear HA
   simp only [dom_Kids.l0] at H
   by_cases c3 : x10_1 < (l0.length : Int)
   ·rw [if_pos c3] at H
    have c3b0 : decide (x10_1 < (l0.length : Int)) = true := decide_eq_true c3
    clear c3
    by_cases c4 : 0 ≤ x10_1
    ·rw [if_pos c4] at H
     have c4b0 : decide (0 ≤ x10_1) = true := decide_eq_true c4
     clear c4
     by_cases c5 : x10_1 < (l0.length : Int)
     ·rw [if_pos c5] at H
      have c5b0 : decide (x10_1 < (l0.length : Int)) = true := decide_eq_true c5
      clear c5
      by_cases c6 : (rd l0 x10_1) = a1
      ·rw [if_pos c6] at H
       have c6b0 : ((rd l0 x10_1) == a1) = true := beq_iff_eq.mpr c6
       have c6b1 : ((rd l0 x10_1) != a1) = false := bne_eq_false_iff_eq.mpr c6
       clear c6
       obtain ⟨y694, hy694⟩ : ∃ y_ : List Int, y_ = (([a1] : List Int)) := ⟨_, rfl⟩
       replace H : ((dom_in.f k1 l0 y694).bind fun t697 => (if t697 = true then (if x5_1.length < 17592186044416 then (dom_Kids.l0 k1 l0 a1 (x5_1 ++ [x10_1]) l0 (l0.length : Int) (wrap64 (x10_1 + 1))) else (none)) else (dom_Kids.l0 k1 l0 a1 x5_1 l0 (l0.length : Int) (wrap64 (x10_1 + 1))))) = some r := by first | (rw [hy694]; with_reducible exact H) | (have H2_ := (Option.bind_some _ _).symm.trans H; rw [hy694]; with_reducible exact H2_) | (have H2_ := (Option.bind_some _ _).symm.trans H; with_reducible exact H2_) | with_reducible exact H | (rw [hy694]; exact H) | exact H
       have Ny694 := Aside0.mk hy694
       clear hy694
       replace H := Option.bind_eq_some_iff.mp H
       obtain ⟨t697, A70, H⟩ := H
       replace H : (if t697 = true then (if x5_1.length < 17592186044416 then (dom_Kids.l0 k1 l0 a1 (x5_1 ++ [x10_1]) l0 (l0.length : Int) (wrap64 (x10_1 + 1))) else (none)) else (dom_Kids.l0 k1 l0 a1 x5_1 l0 (l0.length : Int) (wrap64 (x10_1 + 1)))) = some r := H
       have A7 := Aside0.mk A70
       clear A70
       by_cases c8 : t697 = true
       ·subst c8
        have H1 : (if x5_1.length < 17592186044416 then (dom_Kids.l0 k1 l0 a1 (x5_1 ++ [x10_1]) l0 (l0.length : Int) (wrap64 (x10_1 + 1))) else (none)) = some r := by rw [if_pos rfl] at H; exact H
        clear H
        have H := H1
        clear H1
        by_cases c9 : x5_1.length < 17592186044416
        ·rw [if_pos c9] at H
         have LMc9 := Aside0.mk c9
         clear c9
         obtain ⟨y698, hy698⟩ : ∃ y_ : List Int, y_ = (x5_1 ++ [x10_1]) := ⟨_, rfl⟩
         replace H : (dom_Kids.l0 k1 l0 a1 y698 l0 (l0.length : Int) (wrap64 (x10_1 + 1))) = some r := by first | (rw [hy698]; with_reducible exact H) | (have H2_ := (Option.bind_some _ _).symm.trans H; rw [hy698]; with_reducible exact H2_) | (have H2_ := (Option.bind_some _ _).symm.trans H; with_reducible exact H2_) | with_reducible exact H | (rw [hy698]; exact H) | exact H
         have Ny698 := Aside0.mk hy698
         clear hy698
         have H' := Aside0.mk H
         clear H
         have p693 : 0 ≤ (x10_1 : Int) := D_
         have q693 : x10_1 < (l0.length : Int) := D_
         obtain ⟨ad693, e693, hx693_0⟩ := Kd.at_int HR0.out x10_1 p693 q693
         cases e693
         replace hx693_0 := (HB.out.cell (World.block_lt_of_cell? w _ hx693_0)).trans hx693_0
         replace p693 := eq_true p693
         replace q693 := eq_true q693
         go_wp2_with (first | ((with_reducible refine gate_dst (N := 21) rfl ?_); (try (refine gate_guard (by rfl) ?_; dsimp only)); refine Kd.R_lit (Kd.int .i64) _ 3 ?hg (N := 21) ?hd (xs := ([a1] : List Int)) (inner := [.int .i64 a1]) (ok := fun _ => True) (okp := fun _ => True) ?hr ?hp (fun _ hk => hk) trivial (Below.refl _ _) (Nat.le_refl _) (by simp) ?_; (case hd => rfl); (case hg => rfl); (case hr => first | (go_simp; done) | (go_simp; rfl)); (case hp => exact (Reps.one (show Kd.M (Kd.int .i64) _ _ _ a1 [.int .i64 a1] from rfl) (Reps.none _ _))); intro v695 w10 ho11 hb hg_ hnew_; clear hg_ hnew_; (first | rw [← Ny694.out] at ho11 | (simp only [Int.reduceToNat] at ho11; rw [← Ny694.out] at ho11)); have n0_ := Aside0.mk (Kd.R_elder' (by exact RX_ HO_5.out) (Kd.R_base ho11) hb); have n1_ := Aside0.mk (Kd.R_lower (Kd.R_new' ho11 (Kd.R_lt (by exact RX_ HO_5.out))) (below_size (B_))); have n2_ := Aside0.mk (below_step (B_) hb); clear HO_5; clear HB; have HO_5 := n0_; have HO696 := n1_; have HB := n2_; clear n0_ n1_ n2_; clear hb ho11; obtain ⟨Ao12, co12, eo12⟩ := Kd.R_slice HO696.out; subst eo12) | (go_at_call 35; (with_reducible refine (dom_in.calls k1 _ _ l0 _ _ y694 true _ ?side1 ?side2 ?side3 ?side4 A7.out).mono ?_); (case side1 => exact CX_ (Kd.C_below HR0.out HB.out)); (case side2 => exact HC0.out); (case side3 => repeat (first | exact (Kd.R_reads' HO696.out).2.2 | (with_reducible refine Kd.C_alloc ?_ _) | (with_reducible refine Kd.C_drewN ?_ _) | (with_reducible refine Kd.C_drew ?_))); (case side4 => exact (Kd.R_reads' HO696.out).2.1); rintro e w13 ⟨rfl, hb⟩; have n0_ := Aside0.mk (Kd.R_below (by exact RX_ HO_5.out) hb); have n1_ := Aside0.mk (Kd.R_below (by exact RX_ HO696.out) hb); have n2_ := Aside0.mk (below_step (B_) hb); clear HO_5; clear HO696; clear HB; have HO_5 := n0_; have HO696 := n1_; have HB := n2_; clear n0_ n1_ n2_; (try clear hb); (try clear hb2); (try clear hk); (try clear hi)) | ((with_reducible refine gate_builtin (b := .append) (xs := #[.tmp 24, .tmp 26]) rfl ?_); (try (refine gate_guard (by rfl) ?_; dsimp only)); at_builtin; refine Kd.R_append (Kd.int .i64) (w0 := w) w.heap.size rfl (.tmp 24) (.tmp 26) 31 3 (.int .i64 0) 8 rfl Try.underlying31 info3 rfl (by decide) (by omega) u5 x5_1 x10_1 [.int .i64 x10_1] (fun k_ => some k_ ≠ (.slice Ao12 y694.length co12 : Value).ownBlock) (fun _ => False) rfl rfl ?aP (fun _ hk => hk.elim) ?aF ?aO ?aB ?aS ?aL ?_; (case aP => exact rfl); (case aB => exact (B_)); (case aF => exact (fun k_ hk => Kd.fresh' (Kd.R_lt (by exact RX_ HO696.out)) k_ hk)); (case aO => exact (by (with_reducible repeat (first | apply Kd.R_alloc | apply Kd.R_drewN | apply Kd.R_drew)); exact Kd.R_mono HO_5.out (fun _ hk => by first | exact hk.2 | exact hk | exact ⟨hk.1, hk.2⟩ | simp_all))); (case aS => exact (below_size (B_))); (case aL => have := LMc9.out; omega); intro v699 w14 ho hb hg hat; rw [← Ny698.out] at ho; have n0_ := Aside0.mk (Kd.R_after (ok := (fun _ => True)) (by exact RX_ HO696.out) hg hat); have n1_ := Aside0.mk (hb); have n2_ := Aside0.mk (ho); clear HO696; clear HB; clear HO_5; have HO696 := n0_; have HB := n1_; have HO700 := n2_; clear n0_ n1_ n2_; clear ho hb hg hat))
         go_roundg k1
         case measure => have := HK1.out; omega
         case rel => exact ⟨(y698), (wrap64 (x10_1 + 1)), (by first | rfl | (simp; done) | (simp [*]; done)), H', ⟨by have := HK1.out; omega⟩, ⟨by (with_reducible repeat (first | apply Kd.R_alloc | apply Kd.R_drewN | apply Kd.R_drew)); exact Kd.R_mono HO700.out (fun _ hk => trivial)⟩, ⟨B_⟩⟩
        rw [if_neg c9] at H
        exact absurd H (by simp)
       replace c8 := Bool.eq_false_iff.mpr c8
       subst c8
       have H1 : (dom_Kids.l0 k1 l0 a1 x5_1 l0 (l0.length : Int) (wrap64 (x10_1 + 1))) = some r := by rw [if_neg (show ¬ (false = true) by decide)] at H; exact H
       clear H
       have H := H1
       clear H1
       have H' := Aside0.mk H
       clear H
       have p693 : 0 ≤ (x10_1 : Int) := D_
       have q693 : x10_1 < (l0.length : Int) := D_
       obtain ⟨ad693, e693, hx693_0⟩ := Kd.at_int HR0.out x10_1 p693 q693
       cases e693
       replace hx693_0 := (HB.out.cell (World.block_lt_of_cell? w _ hx693_0)).trans hx693_0
       replace p693 := eq_true p693
       replace q693 := eq_true q693
       go_wp2_with (first | ((with_reducible refine gate_dst (N := 21) rfl ?_); (try (refine gate_guard (by rfl) ?_; dsimp only)); refine Kd.R_lit (Kd.int .i64) _ 3 ?hg (N := 21) ?hd (xs := ([a1] : List Int)) (inner := [.int .i64 a1]) (ok := fun _ => True) (okp := fun _ => True) ?hr ?hp (fun _ hk => hk) trivial (Below.refl _ _) (Nat.le_refl _) (by simp) ?_; (case hd => rfl); (case hg => rfl); (case hr => first | (go_simp; done) | (go_simp; rfl)); (case hp => exact (Reps.one (show Kd.M (Kd.int .i64) _ _ _ a1 [.int .i64 a1] from rfl) (Reps.none _ _))); intro v695 w15 ho16 hb hg_ hnew_; clear hg_ hnew_; (first | rw [← Ny694.out] at ho16 | (simp only [Int.reduceToNat] at ho16; rw [← Ny694.out] at ho16)); have n0_ := Aside0.mk (Kd.R_elder' (by exact RX_ HO_5.out) (Kd.R_base ho16) hb); have n1_ := Aside0.mk (Kd.R_lower (Kd.R_new' ho16 (Kd.R_lt (by exact RX_ HO_5.out))) (below_size (B_))); have n2_ := Aside0.mk (below_step (B_) hb); clear HO_5; clear HB; have HO_5 := n0_; have HO696 := n1_; have HB := n2_; clear n0_ n1_ n2_; clear hb ho16; obtain ⟨Ao17, co17, eo17⟩ := Kd.R_slice HO696.out; subst eo17) | (go_at_call 35; (with_reducible refine (dom_in.calls k1 _ _ l0 _ _ y694 false _ ?side1 ?side2 ?side3 ?side4 A7.out).mono ?_); (case side1 => exact CX_ (Kd.C_below HR0.out HB.out)); (case side2 => exact HC0.out); (case side3 => repeat (first | exact (Kd.R_reads' HO696.out).2.2 | (with_reducible refine Kd.C_alloc ?_ _) | (with_reducible refine Kd.C_drewN ?_ _) | (with_reducible refine Kd.C_drew ?_))); (case side4 => exact (Kd.R_reads' HO696.out).2.1); rintro e w18 ⟨rfl, hb⟩; have n0_ := Aside0.mk (Kd.R_below (by exact RX_ HO_5.out) hb); have n1_ := Aside0.mk (Kd.R_below (by exact RX_ HO696.out) hb); have n2_ := Aside0.mk (below_step (B_) hb); clear HO_5; clear HO696; clear HB; have HO_5 := n0_; have HO696 := n1_; have HB := n2_; clear n0_ n1_ n2_; (try clear hb); (try clear hb2); (try clear hk); (try clear hi)))
       go_roundg k1
       case measure => have := HK1.out; omega
       case rel => exact ⟨(x5_1), (wrap64 (x10_1 + 1)), (by first | rfl | (simp; done) | (simp [*]; done)), H', ⟨by have := HK1.out; omega⟩, ⟨by (with_reducible repeat (first | apply Kd.R_alloc | apply Kd.R_drewN | apply Kd.R_drew)); exact Kd.R_mono HO_5.out (fun _ hk => trivial)⟩, ⟨B_⟩⟩
      rw [if_neg c6] at H
      have c6b0 : ((rd l0 x10_1) == a1) = false := beq_eq_false_iff_ne.mpr c6
      have c6b1 : ((rd l0 x10_1) != a1) = true := bne_iff_ne.mpr c6
      have H' := Aside0.mk H
      clear H
      have p693 : 0 ≤ (x10_1 : Int) := D_
      have q693 : x10_1 < (l0.length : Int) := D_
      obtain ⟨ad693, e693, hx693_0⟩ := Kd.at_int HR0.out x10_1 p693 q693
      cases e693
      replace hx693_0 := (HB.out.cell (World.block_lt_of_cell? w _ hx693_0)).trans hx693_0
      replace p693 := eq_true p693
      replace q693 := eq_true q693
      go_wp2
      go_roundg k1
      case measure => have := HK1.out; omega
      case rel => exact ⟨(x5_1), (wrap64 (x10_1 + 1)), (by first | rfl | (simp; done) | (simp [*]; done)), H', ⟨by have := HK1.out; omega⟩, ⟨by exact RM_ HO_5.out⟩, ⟨B_⟩⟩
     rw [if_neg c5] at H
     exact absurd H (by simp)
    rw [if_neg c4] at H
    exact absurd H (by simp)
   rw [if_neg c3] at H
   have c3b0 : decide (x10_1 < (l0.length : Int)) = false := decide_eq_false c3
   clear c3
   obtain rfl := Option.some.inj H
   go_wp2
   go_ret
   exact ⟨_, by first | rfl | (simp [errW_none, errW_some] <;> rfl) | (simp [*, errW_none, errW_some] <;> rfl), by exact RX_ HO_5.out, B_⟩

end Go.Proofs.Ytoekeknfeinphaa.G
namespace Go.Proofs.Ytoekeknfeinphaa.GP
open Go.RowKit Go.Proofs.Ytoekeknfeinphaa.G Go.Proofs.YtoekeknfeinphaaW.PrintWords

/-- The way up from a place. -/
def pth (t : List Int) : Nat → Int → Option (List Int)
  | 0, _ => none
  | f + 1, a => if a < 0 ∨ (t.length : Int) ≤ a then none else if rd t a = -1 then some [a] else (pth t f (rd t a)).map (a :: ·)
abbrev way (t : List Int) (a : Int) : Option (List Int) := pth t t.length a
theorem pth_step {t : List Int} {f : Nat} {a : Int} (h0 : 0 ≤ a) (h1 : a < (t.length : Int)) (ht : rd t a ≠ -1) : pth t (f + 1) a = (pth t f (rd t a)).map (a :: ·) := by
  rw [pth, if_neg (by omega), if_neg ht]
theorem pth_top {t : List Int} {f : Nat} {a : Int} (h0 : 0 ≤ a) (h1 : a < (t.length : Int)) (ht : rd t a = -1) : pth t (f + 1) a = some [a] := by
  rw [pth, if_neg (by omega), if_pos ht]
theorem pth_out {t : List Int} {f : Nat} {a : Int} (h : a < 0 ∨ (t.length : Int) ≤ a) : pth t f a = none := by
  cases f with
  | zero => rfl
  | succ f => rw [pth, if_pos h]
theorem pth_more {t : List Int} : ∀ {f g : Nat} {a : Int} {l : List Int}, f ≤ g → pth t f a = some l → pth t g a = some l := by
  intro f
  induction f with
  | zero => intro g a l _ h; simp [pth] at h
  | succ f ih =>
    intro g a l hg h
    obtain ⟨g, rfl⟩ : ∃ m, g = m + 1 := ⟨g - 1, by omega⟩
    rw [pth] at h ⊢
    by_cases ho : a < 0 ∨ (t.length : Int) ≤ a
    · rw [if_pos ho] at h; cases h
    · rw [if_neg ho] at h ⊢
      by_cases ht : rd t a = -1
      · rw [if_pos ht] at h ⊢; exact h
      · rw [if_neg ht] at h ⊢
        cases hq : pth t f (rd t a) with
        | none => rw [hq] at h; cases h
        | some m => rw [hq] at h; rw [ih (by omega) hq]; exact h
/-- A way is cut: from each place on it it goes on. -/
theorem pth_form {t : List Int} {f : Nat} {a : Int} {l : List Int} (h : pth t f a = some l) : 0 ≤ a ∧ a < (t.length : Int) ∧ l.length ≤ f ∧
    ((rd t a = -1 ∧ l = [a]) ∨ (rd t a ≠ -1 ∧ ∃ m, l = a :: m ∧ pth t (f - 1) (rd t a) = some m)) := by
  cases f with
  | zero => simp [pth] at h
  | succ f =>
    rw [pth] at h
    by_cases ho : a < 0 ∨ (t.length : Int) ≤ a
    · rw [if_pos ho] at h; cases h
    · rw [if_neg ho] at h
      refine ⟨by omega, by omega, ?_⟩
      have key : ∀ (g : Nat) (b : Int) (m : List Int), pth t g b = some m → m.length ≤ g := by
        intro g
        induction g with
        | zero => intro b m h; simp [pth] at h
        | succ g ih =>
          intro b m h
          rw [pth] at h
          by_cases ho : b < 0 ∨ (t.length : Int) ≤ b
          · rw [if_pos ho] at h; cases h
          · rw [if_neg ho] at h
            by_cases ht : rd t b = -1
            · rw [if_pos ht] at h; cases h; simp
            · rw [if_neg ht] at h
              cases hq : pth t g (rd t b) with
              | none => rw [hq] at h; cases h
              | some m' => rw [hq] at h; cases h; have := ih _ _ hq; simp; omega
      by_cases ht : rd t a = -1
      · rw [if_pos ht] at h; cases h
        exact ⟨by simp, .inl ⟨ht, rfl⟩⟩
      · rw [if_neg ht] at h
        cases hq : pth t f (rd t a) with
        | none => rw [hq] at h; cases h
        | some m =>
          rw [hq] at h; cases h
          have := key _ _ _ hq
          exact ⟨by simp; omega, .inr ⟨ht, m, rfl, hq⟩⟩
theorem way_form {t : List Int} {a : Int} {l : List Int} (h : way t a = some l) : 0 ≤ a ∧ a < (t.length : Int) ∧ l.length ≤ t.length ∧
    ((rd t a = -1 ∧ l = [a]) ∨ (rd t a ≠ -1 ∧ ∃ m, l = a :: m ∧ way t (rd t a) = some m)) := by
  obtain ⟨h1, h2, h3, h4⟩ := pth_form h
  refine ⟨h1, h2, h3, ?_⟩
  rcases h4 with h4 | ⟨h4, m, h5, h6⟩
  · exact .inl h4
  · exact .inr ⟨h4, m, h5, pth_more (by omega) h6⟩
theorem way_mem {t : List Int} : ∀ {l : List Int} {a x : Int}, way t a = some l → x ∈ l → x = a ∨ ∃ m, way t x = some m ∧ m.length < l.length := by
  intro l
  induction l with
  | nil => intro a x _ hx; cases hx
  | cons y l ih =>
    intro a x h hx
    obtain ⟨_, _, _, h4⟩ := way_form h
    rcases h4 with ⟨_, h5⟩ | ⟨_, m, h5, h6⟩
    · cases h5; left; simpa using hx
    · cases h5
      rcases List.mem_cons.mp hx with e | e
      · exact .inl e
      · rcases ih h6 e with e' | ⟨m', h7, h8⟩
        · subst e'; exact .inr ⟨l, h6, by simp⟩
        · exact .inr ⟨m', h7, by simp; omega⟩

/-! #### how far down -/
def dep (t : List Int) (a : Int) : Int := match way t a with | none => -1 | some l => (l.length : Int) - 1
theorem depth_l0 (t : List Int) (hb : t.length ≤ 1000) (d : Nat) : ∀ (i : Nat) (a : Int), t.length - i = d → i ≤ t.length →
    Ev (fun k => dom_depth.l0 k t a (t.length : Int) (i : Int)) (match pth t d a with | none => -1 | some l => (i : Int) + l.length - 1) := by
  induction d with
  | zero =>
    intro i a hd hi
    refine Ev.succ ?_; simp only [dom_depth.l0]
    exact Ev.ifn (by omega) (Ev.pure.of_eq (by simp [pth]))
  | succ d ih =>
    intro i a hd hi
    refine Ev.succ ?_; simp only [dom_depth.l0]
    refine Ev.ifp (by omega) ?_
    have hout : a < 0 ∨ (t.length : Int) ≤ a → Ev (fun k => dom_depth.j1 k t a (i : Int) (t.length : Int) (i : Int) true) (match pth t (d + 1) a with | none => -1 | some l => (i : Int) + l.length - 1) := by
      intro ho
      rw [pth_out ho]
      refine Ev.succ ?_; simp only [dom_depth.j1]
      exact Ev.ifp trivial Ev.pure
    by_cases h0 : a < 0
    · exact Ev.ifp h0 (hout (.inl h0))
    · refine Ev.ifn h0 ?_
      by_cases h1 : a ≥ (t.length : Int)
      · rw [decide_eq_true h1]; exact hout (.inr h1)
      · rw [decide_eq_false h1]
        refine Ev.succ ?_; simp only [dom_depth.j1]
        refine Ev.ifn (by decide) (Ev.ifp (by omega) (Ev.ifp (by omega) ?_))
        by_cases ht : rd t a = -1
        · refine Ev.ifp ht (Ev.pure.of_eq ?_)
          rw [pth_top (by omega) (by omega) ht]; simp
        · refine Ev.ifn ht ?_
          rw [wrap_nat (by omega)]
          refine (ih (i + 1) (rd t a) (by omega) (by omega)).of_eq ?_
          rw [pth_step (by omega) (by omega) ht]
          cases pth t d (rd t a) with
          | none => rfl
          | some l => simp; omega
theorem depth_ok (t : List Int) (hb : t.length ≤ 1000) (a : Int) : Ev (fun k => dom_depth.f k t a) (dep t a) := by
  unfold dom_depth.f
  refine (depth_l0 t hb t.length 0 a (by omega) (by omega)).of_eq ?_
  unfold dep way
  cases pth t t.length a <;> simp
theorem dep_neg {t : List Int} {a : Int} : dep t a < 0 ↔ way t a = none := by
  unfold dep
  cases h : way t a with
  | none => simp
  | some l =>
    have := (way_form h).2.2.2
    have h2 : 0 < l.length := by rcases this with ⟨_, e⟩ | ⟨_, m, e, _⟩ <;> rw [e] <;> simp
    simp; omega

/-! #### trees -/
/-- Whether all from i on come to the top, and the tops are one with those that are told. -/
def rgo (t : List Int) : Nat → Nat → Int → Bool
  | 0, _, tops => tops == 1
  | d + 1, i, tops => if rd t (i : Int) ≠ -2 ∧ way t (i : Int) = none then false else rgo t d (i + 1) (if rd t (i : Int) = -1 then tops + 1 else tops)
abbrev rgt (t : List Int) : Bool := rgo t t.length 0 0
theorem right_l0 (t : List Int) (hb : t.length ≤ 1000) (d : Nat) : ∀ (i : Nat) (tops : Int), t.length - i = d → i ≤ t.length → 0 ≤ tops → tops ≤ i →
    Ev (fun k => dom_right.l0 k t tops t (t.length : Int) (i : Int)) (rgo t d i tops) := by
  induction d with
  | zero =>
    intro i tops hd hi _ _
    refine Ev.succ ?_; simp only [dom_right.l0]
    exact Ev.ifn (by omega) (Ev.pure.of_eq rfl)
  | succ d ih =>
    intro i tops hd hi h0 h1
    have hwt : wrap64 (tops + 1) = tops + 1 := wrap_id (by omega) (by omega)
    refine Ev.succ ?_; simp only [dom_right.l0]
    refine Ev.ifp (by omega) (Ev.ifp (by omega) (Ev.ifp (by omega) ?_))
    rw [wrap_nat (by omega), hwt, rgo]
    have hcall : ∀ (tops' : Int), rd t (i : Int) ≠ -2 → 0 ≤ tops' → tops' ≤ ((i + 1 : Nat) : Int) → Ev (fun k => (dom_depth.f k t (i : Int)).bind fun t1 => (if t1 < 0 then (some false) else (dom_right.l0 k t tops' t (t.length : Int) ((i + 1 : Nat) : Int)))) (if rd t (i : Int) ≠ -2 ∧ way t (i : Int) = none then false else rgo t d (i + 1) tops') := by
      intro tops' h2 g0 g1
      refine Ev.bind (depth_ok t hb _) ?_
      by_cases hw : way t (i : Int) = none
      · rw [if_pos ⟨h2, hw⟩]; exact Ev.ifp (dep_neg.mpr hw) Ev.pure
      · rw [if_neg (fun h => hw h.2)]; exact Ev.ifn (fun h => hw (dep_neg.mp h)) (ih (i + 1) tops' (by omega) (by omega) g0 g1)
    by_cases e1 : rd t (i : Int) = -1
    · rw [if_pos e1]
      refine Ev.ifp e1 (Ev.ifn (by omega) ?_)
      exact hcall (tops + 1) (by omega) (by omega) (by omega)
    · rw [if_neg e1]
      refine Ev.ifn e1 ?_
      by_cases e2 : rd t (i : Int) = -2
      · rw [if_neg (fun h => h.1 e2)]
        exact Ev.ifp e2 (ih (i + 1) tops (by omega) (by omega) h0 (by omega))
      · exact Ev.ifn e2 (hcall tops e2 h0 (by omega))
theorem right_ok (t : List Int) (hb : t.length ≤ 1000) : Ev (fun k => dom_right.f k t) (rgt t) := by
  unfold dom_right.f
  exact right_l0 t hb t.length 0 0 (by omega) (by omega) (by omega) (by omega)
theorem rgo_le {t : List Int} : ∀ (d i : Nat) (tops : Int), rgo t d i tops = true → tops ≤ 1 := by
  intro d
  induction d with
  | zero => intro i tops h; simp [rgo] at h; omega
  | succ d ih =>
    intro i tops h
    rw [rgo] at h
    split at h
    · cases h
    · have := ih _ _ h; split at this <;> omega
theorem rgo_top {t : List Int} : ∀ (d i : Nat) (tops : Int), rgo t d i tops = true → ∀ a, i ≤ a → a < i + d → rd t (a : Int) = -1 → tops ≤ 0 := by
  intro d
  induction d with
  | zero => intro i tops h a h1 h2; omega
  | succ d ih =>
    intro i tops h a h1 h2 ha
    rw [rgo] at h
    split at h
    · cases h
    · by_cases e : a = i
      · subst e; rw [if_pos ha] at h; have := rgo_le _ _ _ h; omega
      · have := ih _ _ h a (by omega) (by omega) ha; split at this <;> omega
theorem rgo_one {t : List Int} : ∀ (d i : Nat) (tops : Int), rgo t d i tops = true → 0 ≤ tops → ∀ a b, i ≤ a → a < b → b < i + d → rd t (a : Int) = -1 → rd t (b : Int) = -1 → False := by
  intro d
  induction d with
  | zero => intro i tops h _ a b h1 h2 h3; omega
  | succ d ih =>
    intro i tops h h0 a b h1 h2 h3 ha hb
    rw [rgo] at h
    split at h
    · cases h
    · by_cases e : a = i
      · subst e; rw [if_pos ha] at h; have := rgo_top _ _ _ h b (by omega) (by omega) hb; omega
      · exact ih _ _ h (by split <;> omega) a b (by omega) h2 (by omega) ha hb
theorem rgt_one {t : List Int} (h : rgt t = true) {a b : Int} (ha0 : 0 ≤ a) (ha1 : a < (t.length : Int)) (hb0 : 0 ≤ b) (hb1 : b < (t.length : Int)) (ha : rd t a = -1) (hb : rd t b = -1) : a = b := by
  obtain ⟨x, rfl⟩ : ∃ x : Nat, a = (x : Int) := ⟨a.toNat, by omega⟩
  obtain ⟨y, rfl⟩ : ∃ y : Nat, b = (y : Int) := ⟨b.toNat, by omega⟩
  by_cases e : x = y
  · rw [e]
  · exfalso
    by_cases l : x < y
    · exact rgo_one _ _ _ h (by omega) x y (by omega) l (by omega) ha hb
    · exact rgo_one _ _ _ h (by omega) y x (by omega) (by omega) (by omega) hb ha

/-! #### in, Meet, Over, Kids -/
theorem ixf_l0 (t : List Int) (hb : t.length ≤ 1000) (d : Nat) : ∀ (i : Nat) (l : List Int), l.length ≤ 1000 → i ≤ l.length → l.length - i = d →
    ∃ v, Ev (fun k => slices_IndexFunc_int_int_dom_in_1.l0 k l (l.length : Int) (i : Int) t) v ∧ decide (v ≥ 0) = (l.drop i).any (fun a => (way t a).isNone) := by
  induction d with
  | zero =>
    intro i l hl hi hd
    refine ⟨-1, Ev.succ ?_, ?_⟩
    · simp only [slices_IndexFunc_int_int_dom_in_1.l0]; exact Ev.ifn (by omega) Ev.pure
    · rw [List.drop_of_length_le (by omega)]; rfl
  | succ d ih =>
    intro i l hl hi hd
    obtain ⟨v, h1, h2⟩ := ih (i + 1) l hl (by omega) (by omega)
    rw [drop_getD l i 0 (by omega), List.any_cons]
    have hrd : rd l (i : Int) = l.getD i 0 := by simp [rd]
    have hin : Ev (fun k => dom_in_1.f k (rd l (i : Int)) t) (way t (l.getD i 0)).isNone := by
      unfold dom_in_1.f
      refine Ev.bind (depth_ok t hb _) (Ev.pure.of_eq ?_)
      rw [hrd]
      cases hw : way t (l.getD i 0) with
      | none => rw [decide_eq_true (dep_neg.mpr hw)]; rfl
      | some m => rw [decide_eq_false (fun h => by rw [dep_neg.mp h] at hw; cases hw)]; rfl
    cases hw : (way t (l.getD i 0)).isNone with
    | true =>
      refine ⟨(i : Int), Ev.succ ?_, by simp⟩
      simp only [slices_IndexFunc_int_int_dom_in_1.l0]
      refine Ev.ifp (by omega) (Ev.ifp (by omega) (Ev.ifp (by omega) (Ev.bind hin ?_)))
      exact Ev.ifp hw Ev.pure
    | false =>
      refine ⟨v, Ev.succ ?_, by rw [h2]; rfl⟩
      simp only [slices_IndexFunc_int_int_dom_in_1.l0]
      refine Ev.ifp (by omega) (Ev.ifp (by omega) (Ev.ifp (by omega) (Ev.bind hin ?_)))
      refine Ev.ifn (by rw [hw]; decide) ?_
      rw [wrap_nat (by omega)]; exact h1
def inT (t : List Int) (l : List Int) : Bool := rgt t && l.all (fun a => (way t a).isSome)
theorem in_ok (t : List Int) (hb : t.length ≤ 1000) (l : List Int) (hl : l.length ≤ 1000) : Ev (fun k => dom_in.f k t l) (inT t l) := by
  unfold dom_in.f inT
  refine Ev.bind (right_ok t hb) ?_
  cases hr : rgt t with
  | false => exact Ev.ifn (by decide) Ev.pure
  | true =>
    refine Ev.ifp rfl ?_
    obtain ⟨v, h1, h2⟩ := ixf_l0 t hb l.length 0 l hl (by omega) (by omega)
    refine Ev.bind (a := decide (v ≥ 0)) ?_ (Ev.pure.of_eq ?_)
    · unfold slices_ContainsFunc_int_int_dom_in_1.f slices_IndexFunc_int_int_dom_in_1.f
      exact Ev.bind h1 Ev.pure
    · rw [h2, List.drop_zero, Bool.true_and, List.not_any_eq_all_not]
      congr 1
      funext a
      cases way t a <;> rfl
/-- The first of a list that lies in another one; -2: none. -/
def fst2 (p q : List Int) : Int := (p.find? (fun x => decide (x ∈ q))).getD (-2)
def meetT (t : List Int) (a b : Int) : Int := if rgt t = true then match way t a, way t b with | some p, some q => fst2 p q | _, _ => -2 else -2
theorem meet_l0 (t : List Int) (hb : t.length ≤ 1000) (hr : rgt t = true) : ∀ (m : Nat) (p q : List Int) (a b : Int), p.length + q.length ≤ m → way t a = some p → way t b = some q → Ev (fun k => dom_Meet.l0 k t a b) (fst2 p q) := by
  intro m
  induction m with
  | zero =>
    intro p q a b hm hp hq
    have h := (way_form hp).2.2.2
    rcases h with ⟨_, e⟩ | ⟨_, _, e, _⟩ <;> rw [e] at hm <;> simp at hm
  | succ m ih =>
    intro p q a b hm hp hq
    obtain ⟨pa0, pa1, pa2, pa3⟩ := way_form hp
    obtain ⟨qa0, qa1, qa2, qa3⟩ := way_form hq
    have hpd : dep t a = (p.length : Int) - 1 := by unfold dep; rw [hp]
    have hqd : dep t b = (q.length : Int) - 1 := by unfold dep; rw [hq]
    refine Ev.succ ?_; simp only [dom_Meet.l0]
    by_cases hab : a = b
    · refine Ev.ifp hab (Ev.pure.of_eq ?_)
      subst hab
      rw [hp] at hq; cases hq
      rcases pa3 with ⟨_, e⟩ | ⟨_, _, e, _⟩ <;> rw [e] <;> simp [fst2]
    · refine Ev.ifn hab (Ev.bind (depth_ok t hb a) (Ev.bind (depth_ok t hb b) ?_))
      rw [hpd, hqd]
      by_cases hge : (p.length : Int) - 1 ≥ (q.length : Int) - 1
      · refine Ev.ifp hge (Ev.ifp (by omega) (Ev.ifp (by omega) ?_))
        rcases pa3 with ⟨ht, e⟩ | ⟨_, p', e, hp'⟩
        · rw [e] at hge
          rcases qa3 with ⟨ht', e'⟩ | ⟨_, q', e', hq'⟩
          · exact absurd (rgt_one hr pa0 pa1 qa0 qa1 ht ht') hab
          · exfalso
            have h := (way_form hq').2.2.2
            rw [e'] at hge
            rcases h with ⟨_, e''⟩ | ⟨_, _, e'', _⟩ <;> rw [e''] at hge <;> simp at hge <;> omega
        · have hnot : ¬ a ∈ q := by
            intro hm'
            rcases way_mem hq hm' with e'' | ⟨m', h7, h8⟩
            · exact hab e''
            · rw [hp] at h7; cases h7; omega
          rw [e] at hm ⊢
          refine (ih p' q (rd t a) b (by simp at hm; omega) hp' hq).of_eq ?_
          unfold fst2
          rw [List.find?_cons_of_neg (by simpa using hnot)]
      · refine Ev.ifn hge (Ev.ifp (by omega) (Ev.ifp (by omega) ?_))
        rcases qa3 with ⟨ht, e⟩ | ⟨_, q', e, hq'⟩
        · exfalso
          rw [e] at hge
          rcases pa3 with ⟨_, e'⟩ | ⟨_, _, e', _⟩ <;> rw [e'] at hge <;> simp at hge <;> omega
        · have hnot : ¬ b ∈ p := by
            intro hm'
            rcases way_mem hp hm' with e'' | ⟨m', h7, h8⟩
            · exact hab e''.symm
            · rw [hq] at h7; cases h7; omega
          rw [e] at hm ⊢
          refine (ih p q' a (rd t b) (by simp at hm; omega) hp hq').of_eq ?_
          unfold fst2
          congr 1
          have : ∀ l : List Int, (∀ x ∈ l, x ∈ p) → l.find? (fun x => decide (x ∈ q')) = l.find? (fun x => decide (x ∈ b :: q')) := by
            intro l
            induction l with
            | nil => intro _; rfl
            | cons x l ih2 =>
              intro hl
              have hx : x ≠ b := fun e => hnot (e ▸ hl x (List.mem_cons_self ..))
              have e3 : decide (x ∈ b :: q') = decide (x ∈ q') := by simp [hx]
              rw [List.find?_cons, List.find?_cons, e3, ih2 (fun y hy => hl y (List.mem_cons_of_mem _ hy))]
          exact this p (fun _ h => h)
theorem inT_two {t : List Int} {a b : Int} : inT t [a, b] = true ↔ rgt t = true ∧ (∃ p, way t a = some p) ∧ ∃ q, way t b = some q := by
  unfold inT
  simp [Option.isSome_iff_exists]
theorem inT_one {t : List Int} {a : Int} : inT t [a] = true ↔ rgt t = true ∧ ∃ p, way t a = some p := by
  unfold inT
  simp [Option.isSome_iff_exists]
theorem meet_ok (t : List Int) (hb : t.length ≤ 1000) (a b : Int) : Ev (fun k => dom_Meet.f k t a b) (meetT t a b) := by
  unfold dom_Meet.f meetT
  refine Ev.bind (in_ok t hb _ (by simp)) ?_
  by_cases h : inT t [a, b] = true
  · obtain ⟨hr, ⟨p, hp⟩, q, hq⟩ := inT_two.mp h
    refine Ev.ifp h ?_
    rw [if_pos hr, hp, hq]
    exact meet_l0 t hb hr _ p q a b (Nat.le_refl _) hp hq
  · refine Ev.ifn h (Ev.pure.of_eq ?_)
    by_cases hr : rgt t = true
    · rw [if_pos hr]
      cases hp : way t a with
      | none => rfl
      | some p => cases hq : way t b with
        | none => rfl
        | some q => exact absurd (inT_two.mpr ⟨hr, ⟨p, hp⟩, q, hq⟩) h
    · rw [if_neg hr]
def overT (t : List Int) (a b : Int) : Bool := inT t [a, b] && (meetT t a b == a)
theorem over_ok (t : List Int) (hb : t.length ≤ 1000) (a b : Int) : Ev (fun k => dom_Over.f k t a b) (overT t a b) := by
  unfold dom_Over.f overT
  refine Ev.bind (in_ok t hb _ (by simp)) ?_
  cases h : inT t [a, b] with
  | false => exact Ev.ifn (by decide) Ev.pure
  | true => exact Ev.ifp rfl (Ev.bind (meet_ok t hb a b) Ev.pure)
/-- Whose entry one is, from i on. -/
def kdT (t : List Int) (a : Int) (i : Nat) : List Int := ((List.range t.length).drop i).filterMap (fun b => if rd t ((b : Nat) : Int) = a then some ((b : Nat) : Int) else none)
theorem kdT_end (t : List Int) (a : Int) (i : Nat) (h : t.length ≤ i) : kdT t a i = [] := by unfold kdT; rw [List.drop_of_length_le (by simpa using h)]; rfl
theorem kdT_step (t : List Int) (a : Int) (i : Nat) (h : i < t.length) : kdT t a i = (if rd t (i : Int) = a then [(i : Int)] else []) ++ kdT t a (i + 1) := by
  unfold kdT
  rw [drop_getD (List.range t.length) i 0 (by simpa using h), List.filterMap_cons, List.getD_eq_getElem?_getD, List.getElem?_range h, Option.getD_some]
  split <;> rename_i e <;> split at e <;> simp_all
theorem kids_l0 (t : List Int) (hb : t.length ≤ 1000) (a : Int) (d : Nat) : ∀ (i : Nat) (o : List Int), t.length - i = d → i ≤ t.length → o.length ≤ i →
    Ev (fun k => dom_Kids.l0 k t a o t (t.length : Int) (i : Int)) (o ++ if inT t [a] = true then kdT t a i else []) := by
  induction d with
  | zero =>
    intro i o hd hi _
    refine Ev.succ ?_; simp only [dom_Kids.l0]
    refine Ev.ifn (by omega) (Ev.pure.of_eq ?_)
    rw [kdT_end _ _ _ (by omega)]; simp
  | succ d ih =>
    intro i o hd hi ho
    refine Ev.succ ?_; simp only [dom_Kids.l0]
    refine Ev.ifp (by omega) (Ev.ifp (by omega) (Ev.ifp (by omega) ?_))
    rw [kdT_step _ _ _ (show i < t.length by omega), wrap_nat (by omega)]
    by_cases e : rd t (i : Int) = a
    · refine Ev.ifp e (Ev.bind (in_ok t hb [a] (by simp)) ?_)
      rw [if_pos e]
      by_cases hin : inT t [a] = true
      · refine Ev.ifp hin (Ev.ifp (by omega) ?_)
        refine (ih (i + 1) (o ++ [(i : Int)]) (by omega) (by omega) (by simp; omega)).of_eq ?_
        rw [if_pos hin, if_pos hin]; simp
      · refine Ev.ifn hin ?_
        refine (ih (i + 1) o (by omega) (by omega) (by omega)).of_eq ?_
        rw [if_neg hin, if_neg hin]
    · refine Ev.ifn e ?_
      rw [if_neg e]
      exact (ih (i + 1) o (by omega) (by omega) (by omega)).of_eq (by simp)
def kidsT (t : List Int) (a : Int) : List Int := if inT t [a] = true then kdT t a 0 else []
theorem kids_ok (t : List Int) (hb : t.length ≤ 1000) (a : Int) : Ev (fun k => dom_Kids.f k t a) (kidsT t a) := by
  unfold dom_Kids.f
  exact (kids_l0 t hb a t.length 0 [] (by omega) (by omega) (by simp)).of_eq (by simp [kidsT])

section
variable {S : List (List Nat)} {r : Nat} {at_ par : Nat → Nat}
theorem Gd.rd_no (hD : Gd S r at_ par) {x : Nat} (hx : x < S.length) (h : ¬ Rch S (-1) r x) : rd (dtl S r) (x : Int) = -2 := by rw [rd_dtl hx, idv_no hD.lt h]
theorem Gd.rd_root (hD : Gd S r at_ par) : rd (dtl S r) (r : Int) = -1 := by rw [rd_dtl hD.lt, idv_root]
theorem Gd.rd_idm (hD : Gd S r at_ par) {x : Nat} (h : Rch S (-1) r x) (hr : x ≠ r) : ∃ z, Idm S r z x ∧ rd (dtl S r) (x : Int) = (z : Int) := by
  obtain ⟨z, hz⟩ := hD.idm x h hr
  exact ⟨z, hz, by rw [rd_dtl (h.lt hD.gr hD.lt), idv_idm hD.pl hr hz]⟩
theorem Gd.way_no (hD : Gd S r at_ par) {x : Nat} (hx : x < S.length) (h : ¬ Rch S (-1) r x) : way (dtl S r) (x : Int) = none := by
  cases hw : way (dtl S r) (x : Int) with
  | none => rfl
  | some l =>
    have h1 := (way_form hw).2.2.2
    rw [hD.rd_no hx h] at h1
    rcases h1 with ⟨h1, _⟩ | ⟨_, m, _, h2⟩
    · omega
    · rw [show way (dtl S r) (-2) = none from pth_out (.inl (by omega))] at h2; cases h2
theorem Gd.way_rch (hD : Gd S r at_ par) : ∀ (n x : Nat), at_ x ≤ n → Rch S (-1) r x → ∃ l, pth (dtl S r) (at_ x + 1) (x : Int) = some l ∧ ∀ a : Int, a ∈ l ↔ ∃ d : Nat, a = (d : Int) ∧ Dm S r d x := by
  intro n
  induction n with
  | zero =>
    intro x hn hx
    by_cases e : x = r
    · subst e
      refine ⟨[(x : Int)], pth_top (by omega) (by rw [dtl_length]; have := hD.lt; omega) hD.rd_root, fun a => ?_⟩
      rw [List.mem_singleton]
      exact ⟨fun h => ⟨x, h, dm_refl hx⟩, fun ⟨d, h1, h2⟩ => by rw [h1, dm_of_root h2]⟩
    · have := (hD.pl.par x hx e).2.2; omega
  | succ n ih =>
    intro x hn hx
    have hxl := hx.lt hD.gr hD.lt
    by_cases e : x = r
    · subst e
      refine ⟨[(x : Int)], pth_top (by omega) (by rw [dtl_length]; have := hD.lt; omega) hD.rd_root, fun a => ?_⟩
      rw [List.mem_singleton]
      exact ⟨fun h => ⟨x, h, dm_refl hx⟩, fun ⟨d, h1, h2⟩ => by rw [h1, dm_of_root h2]⟩
    · obtain ⟨z, hz, hrd⟩ := hD.rd_idm hx e
      have hzR := dm_rch hz.1
      have hzl : at_ z < at_ x := Nat.lt_of_le_of_ne (dm_le hD.pl _ _ (Nat.le_refl _) hz.1) (fun e2 => hz.2.1 (hD.pl.inj z x hzR hx e2))
      obtain ⟨m, h1, h2⟩ := ih z (by omega) hzR
      refine ⟨(x : Int) :: m, ?_, fun a => ?_⟩
      · rw [pth_step (by omega) (by rw [dtl_length]; omega) (by rw [hrd]; omega), hrd, pth_more (show at_ z + 1 ≤ at_ x by omega) h1]; rfl
      · rw [List.mem_cons, h2]
        constructor
        · rintro (h | ⟨d, h3, h4⟩)
          · exact ⟨x, h, dm_refl hx⟩
          · exact ⟨d, h3, dm_trans h4 hz.1⟩
        · rintro ⟨d, h3, h4⟩
          by_cases e2 : d = x
          · exact .inl (by rw [h3, e2])
          · exact .inr ⟨d, h3, hz.2.2 d h4 e2⟩
theorem Gd.way (hD : Gd S r at_ par) {x : Nat} (hx : Rch S (-1) r x) : ∃ l, way (dtl S r) (x : Int) = some l ∧ ∀ a : Int, a ∈ l ↔ ∃ d : Nat, a = (d : Int) ∧ Dm S r d x := by
  obtain ⟨l, h1, h2⟩ := hD.way_rch _ x (Nat.le_refl _) hx
  exact ⟨l, pth_more (by rw [dtl_length]; exact hD.atn x hx) h1, h2⟩
theorem Gd.way_iff (hD : Gd S r at_ par) {x : Nat} (hx : x < S.length) : (∃ l, GP.way (dtl S r) (x : Int) = some l) ↔ Rch S (-1) r x := by
  constructor
  · rintro ⟨l, h⟩
    refine Classical.byContradiction (fun hn => ?_)
    rw [hD.way_no hx hn] at h; cases h
  · intro h; obtain ⟨l, h1, _⟩ := hD.way h; exact ⟨l, h1⟩
theorem Gd.rgo (hD : Gd S r at_ par) (d : Nat) : ∀ i : Nat, i + d = S.length → rgo (dtl S r) d i (if r < i then 1 else 0) = true := by
  induction d with
  | zero =>
    intro i hi
    rw [if_pos (by have := hD.lt; omega)]; rfl
  | succ d ih =>
    intro i hi
    have h1 : ¬ (rd (dtl S r) (i : Int) ≠ -2 ∧ GP.way (dtl S r) (i : Int) = none) := by
      rintro ⟨h1, h2⟩
      by_cases hR : Rch S (-1) r i
      · obtain ⟨l, h3, _⟩ := hD.way hR; rw [h2] at h3; cases h3
      · exact h1 (hD.rd_no (by omega) hR)
    rw [GP.rgo, if_neg h1]
    have h2 := ih (i + 1) (by omega)
    by_cases e : i = r
    · rw [e, hD.rd_root, if_pos rfl, if_neg (Nat.lt_irrefl _)]
      rw [e, if_pos (Nat.lt_succ_self _)] at h2
      exact h2
    · have h3 : rd (dtl S r) (i : Int) ≠ -1 := by
        by_cases hR : Rch S (-1) r i
        · obtain ⟨z, _, h4⟩ := hD.rd_idm hR e; rw [h4]; omega
        · rw [hD.rd_no (by omega) hR]; omega
      rw [if_neg h3]
      by_cases hlt : r < i
      · rw [if_pos hlt]; rw [if_pos (by omega)] at h2; exact h2
      · rw [if_neg hlt]; rw [if_neg (by omega)] at h2; exact h2
theorem Gd.rgt (hD : Gd S r at_ par) : rgt (dtl S r) = true := by
  show GP.rgo (dtl S r) (dtl S r).length 0 0 = true
  rw [dtl_length]
  have := hD.rgo S.length 0 (by omega)
  simpa using this
theorem Gd.inT2 (hD : Gd S r at_ par) {a b : Nat} (ha : a < S.length) (hb : b < S.length) : inT (dtl S r) [(a : Int), (b : Int)] = true ↔ Rch S (-1) r a ∧ Rch S (-1) r b := by
  rw [inT_two, hD.way_iff ha, hD.way_iff hb]
  exact ⟨fun h => h.2, fun h => ⟨hD.rgt, h⟩⟩
theorem Gd.inT1 (hD : Gd S r at_ par) {a : Nat} (ha : a < S.length) : inT (dtl S r) [(a : Int)] = true ↔ Rch S (-1) r a := by
  rw [inT_one, hD.way_iff ha]
  exact ⟨fun h => h.2, fun h => ⟨hD.rgt, h⟩⟩
theorem fst2_way {t : List Int} {Q : List Int} : ∀ {l : List Int} {a : Int}, GP.way t a = some l → ∀ {c}, c ∈ l → c ∈ Q → fst2 l Q ∈ l ∧ fst2 l Q ∈ Q ∧ ∃ ml, GP.way t (fst2 l Q) = some ml ∧ c ∈ ml := by
  intro l
  induction l with
  | nil => intro a _ c hc; cases hc
  | cons x l ih =>
    intro a h c hc hcQ
    obtain ⟨_, _, _, h4⟩ := way_form h
    have hxa : x = a := by rcases h4 with ⟨_, e⟩ | ⟨_, m, e, _⟩ <;> injection e
    by_cases hx : x ∈ Q
    · have e : fst2 (x :: l) Q = x := by unfold fst2; rw [List.find?_cons, decide_eq_true hx]; rfl
      rw [e]
      exact ⟨List.mem_cons_self .., hx, x :: l, by rw [hxa] at h ⊢; exact h, hc⟩
    · have e : fst2 (x :: l) Q = fst2 l Q := by unfold fst2; rw [List.find?_cons, decide_eq_false hx]
      rw [e]
      have hcl : c ∈ l := by
        rcases List.mem_cons.mp hc with e2 | e2
        · subst e2; exact absurd hcQ hx
        · exact e2
      rcases h4 with ⟨_, e2⟩ | ⟨_, m, e2, h5⟩
      · injection e2 with _ e3; rw [e3] at hcl; cases hcl
      · injection e2 with _ e3
        subst e3
        obtain ⟨g1, g2, g3⟩ := ih h5 hcl hcQ
        exact ⟨List.mem_cons_of_mem _ g1, g2, g3⟩
/-- Where two meet: the nearest of those that dominate both. -/
theorem Gd.meet (hD : Gd S r at_ par) {a b : Nat} (ha : Rch S (-1) r a) (hb : Rch S (-1) r b) : ∃ m : Nat, meetT (dtl S r) (a : Int) (b : Int) = (m : Int) ∧ Dm S r m a ∧ Dm S r m b ∧ ∀ c, Dm S r c a → Dm S r c b → Dm S r c m := by
  obtain ⟨p, hp, hp2⟩ := hD.way ha
  obtain ⟨q, hq, hq2⟩ := hD.way hb
  have e : meetT (dtl S r) (a : Int) (b : Int) = fst2 p q := by unfold meetT; rw [if_pos hD.rgt, hp, hq]
  have hrp : (r : Int) ∈ p := (hp2 _).mpr ⟨r, rfl, dm_root ha⟩
  have hrq : (r : Int) ∈ q := (hq2 _).mpr ⟨r, rfl, dm_root hb⟩
  obtain ⟨g1, g2, _⟩ := fst2_way hp hrp hrq
  obtain ⟨m, hm, hma⟩ := (hp2 _).mp g1
  obtain ⟨m', hm', hmb⟩ := (hq2 _).mp g2
  have emm : m = m' := by omega
  subst emm
  refine ⟨m, by rw [e, hm], hma, hmb, fun c h1 h2 => ?_⟩
  obtain ⟨_, _, ml, g3, g4⟩ := fst2_way hp ((hp2 _).mpr ⟨c, rfl, h1⟩) ((hq2 _).mpr ⟨c, rfl, h2⟩)
  obtain ⟨l, h5, h6⟩ := hD.way (dm_rch hma)
  rw [hm, h5] at g3; cases g3
  obtain ⟨d, h7, h8⟩ := (h6 _).mp g4
  rw [show c = d by omega]; exact h8
theorem Gd.meet_no (hD : Gd S r at_ par) {a b : Nat} (ha : a < S.length) (hb : b < S.length) (h : ¬ (Rch S (-1) r a ∧ Rch S (-1) r b)) : meetT (dtl S r) (a : Int) (b : Int) = -2 := by
  unfold meetT
  rw [if_pos hD.rgt]
  cases hp : GP.way (dtl S r) (a : Int) with
  | none => rfl
  | some p => cases hq : GP.way (dtl S r) (b : Int) with
    | none => rfl
    | some q => exact absurd ⟨(hD.way_iff ha).mp ⟨p, hp⟩, (hD.way_iff hb).mp ⟨q, hq⟩⟩ h
theorem Gd.over (hD : Gd S r at_ par) {a b : Nat} (ha : a < S.length) (hb : b < S.length) : overT (dtl S r) (a : Int) (b : Int) = true ↔ Dm S r a b := by
  unfold overT
  rw [Bool.and_eq_true, hD.inT2 ha hb]
  constructor
  · rintro ⟨⟨h1, h2⟩, h3⟩
    obtain ⟨m, g1, g2, g3, _⟩ := hD.meet h1 h2
    have : m = a := by have := eq_of_beq h3; omega
    rw [← this]; exact g3
  · intro h
    have h1 := dm_rch h
    refine ⟨⟨h1, h.1⟩, ?_⟩
    obtain ⟨m, g1, g2, g3, g4⟩ := hD.meet h1 h.1
    have : a = m := dm_antisymm hD.pl (g4 a (dm_refl h1) h) g2
    rw [g1, this]; simp
theorem Gd.over_eq (hD : Gd S r at_ par) {a b : Nat} (ha : a < S.length) (hb : b < S.length) (v : Bool) (h : v = true ↔ Dm S r a b) : overT (dtl S r) (a : Int) (b : Int) = v := by
  have h2 := hD.over ha hb
  rw [← h] at h2
  cases v <;> cases h3 : overT (dtl S r) (a : Int) (b : Int) <;> simp_all
end
end Go.Proofs.Ytoekeknfeinphaa.GP
