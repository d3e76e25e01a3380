/- Printed by a program of this session (wip/tools/op.py, over the kit's print program): Go functions as plain Lean functions, each with a proof that the call answers so. Conditions: each theorem's own. -/
import Derived.Test.YtokfaaemhniodaaGx21
import Derived.Test.YtokfaaemhniodaaGx0
import Derived.Test.YtokfaaemhniodaaGx4
import Derived.Test.YtokfaaemhniodaaGx7
import Derived.Test.YtokfaaemhniodaaGx9
import Derived.Test.YtokfaaemhniodaaGx10
import Derived.Test.YtokfaaemhniodaaGx11
import Derived.Test.YtokfaaemhniodaaGx14
import Derived.Test.YtokfaaemhniodaaGx16
import Derived.Test.YtokfaaemhniodaaGx17
import Derived.Test.YtokfaaemhniodaaGx18
import Derived.Test.YtokfaaemhniodaaGx22
namespace Go.Proofs.Ytokfaaemhniodaa.G
open Go.Proofs.YtokfaaemhniodaaH
open Go.RowKit Go.Proofs.YtokfaaemhniodaaW.PrintWords Go.Proofs.YtokfaaemhniodaaW.PrintLast Go.Proofs.YtokfaaemhniodaaW.PrintMore
attribute [local go_sem] max2_int min2_int max_two min_two max_three min_three max_four min_four   -- for this text's walks alone
set_option linter.unusedVariables false
set_option linter.unusedSimpArgs false

/-! ### locksteplaw06_GraphOrders: function 10 -/
mutual
def locksteplaw06_GraphOrders.j0 : Nat → List (List Int) → List (List Int) → Int → Bool → Option (Bool)
 | 0, _, _, _, _ => none
 | k + 1, x0, x1, x2, x22 => if x22 = true then (some true) else ((graph_Make.f k x0).bind fun bt389 => ((lockstepref06_Make.f k x0).bind fun bt397 => ((lockstepref06_Same.f k bt389.1 bt389.2.1 bt397.1 bt397.2.1).bind fun t406 => (if t406 = true then (if bt389.2.2 = bt397.2.2 then ((graph_May.f k x0 x1).bind fun t407 => ((lockstepref06_May.f k x0 x1).bind fun t408 => (if (t407 != t408) = true then (locksteplaw06_GraphOrders.j1 k x2 bt389.2.2 true bt389.1 bt389.2.1 bt397.1 bt397.2.1) else ((graph_Order.f k x0 x1 x2).bind fun t409 => ((lockstepref06_Order.f k x0 x1 x2).bind fun t412 => ((lockstepref02_Ints.f k t409 t412).bind fun t415 => (locksteplaw06_GraphOrders.j1 k x2 bt389.2.2 (!t415) bt389.1 bt389.2.1 bt397.1 bt397.2.1))))))) else (locksteplaw06_GraphOrders.j1 k x2 bt389.2.2 true bt389.1 bt389.2.1 bt397.1 bt397.2.1)) else (locksteplaw06_GraphOrders.j1 k x2 bt389.2.2 true bt389.1 bt389.2.1 bt397.1 bt397.2.1)))))
def locksteplaw06_GraphOrders.j1 : Nat → Int → Int → Bool → List (List Int) → List (List Int) → List (List Int) → List (List Int) → Option (Bool)
 | 0, _, _, _, _, _, _, _ => none
 | k + 1, x2, x8, x61, x397000, x397001, x405000, x405001 => if x61 = true then (some false) else ((graph_Turned.f k x397000 x397001).bind fun bt416 => (if x8 = 0 then ((graph_Order.f k x397000 x397001 x2).bind fun t423 => ((lockstepref06_Order.f k x405000 x405001 x2).bind fun t426 => ((lockstepref02_Ints.f k t423 t426).bind fun t429 => (if t429 = true then ((lockstepref06_Same.f k bt416.1 bt416.2 x405001 x405000).bind fun t430 => (if t430 = true then ((graph_Turned.f k bt416.1 bt416.2).bind fun bt431 => ((lockstepref06_Same.f k bt431.1 bt431.2 x405000 x405001).bind fun t437 => (some t437))) else (some false))) else (some false))))) else (if (bt416.1.length : Int) = 0 then (some ((bt416.2.length : Int) == 0)) else (some false))))
end
def locksteplaw06_GraphOrders.f (k : Nat) (l0 : List (List Int)) (l1 : List (List Int)) (a2 : Int) : Option (Bool) := (locksteplaw06_awake.f k).bind fun t386 => (if t386 = true then ((lockstepref06_Small.f k l0).bind fun t387 => (if t387 = true then ((lockstepref06_Small.f k l1).bind fun t388 => (locksteplaw06_GraphOrders.j0 k l0 l1 a2 (!t388))) else (locksteplaw06_GraphOrders.j0 k l0 l1 a2 true))) else (some false))
theorem locksteplaw06_GraphOrders.mono_l : ∀ k, (∀ y0 y1 y2 y3, LeO (locksteplaw06_GraphOrders.j0 k y0 y1 y2 y3) (locksteplaw06_GraphOrders.j0 (k + 1) y0 y1 y2 y3)) ∧ (∀ y0 y1 y2 y3 y4 y5 y6, LeO (locksteplaw06_GraphOrders.j1 k y0 y1 y2 y3 y4 y5 y6) (locksteplaw06_GraphOrders.j1 (k + 1) y0 y1 y2 y3 y4 y5 y6))
 | 0 => ⟨fun _ _ _ _ r h => by simp [locksteplaw06_GraphOrders.j0] at h, fun _ _ _ _ _ _ _ r h => by simp [locksteplaw06_GraphOrders.j1] at h⟩
 | k + 1 => by
  obtain ⟨ih0, ih1⟩ := locksteplaw06_GraphOrders.mono_l k
  refine ⟨?_, ?_⟩
  ·intro y0 y1 y2 y3
   unfold locksteplaw06_GraphOrders.j0
   repeat' first
   | (with_reducible exact ih0 _ _ _ _)
   | (with_reducible exact ih1 _ _ _ _ _ _ _)
   | (with_reducible exact graph_Make.mono _ _)
   | (with_reducible exact graph_May.mono _ _ _)
   | (with_reducible exact graph_Order.mono _ _ _ _)
   | (with_reducible exact graph_Turned.mono _ _ _)
   | (with_reducible exact locksteplaw06_awake.mono _)
   | (with_reducible exact lockstepref02_Ints.mono _ _ _)
   | (with_reducible exact lockstepref06_Make.mono _ _)
   | (with_reducible exact lockstepref06_May.mono _ _ _)
   | (with_reducible exact lockstepref06_Order.mono _ _ _ _)
   | (with_reducible exact lockstepref06_Same.mono _ _ _ _ _)
   | (with_reducible exact lockstepref06_Small.mono _ _)
   | (with_reducible exact LeO.refl _)
   | (with_reducible exact LeO.none _)
   | (with_reducible refine LeO.ite ?_ ?_)
   | (with_reducible refine LeO.bind ?_ (fun _ => ?_))
   | exact ih0 _ _ _ _
   | exact ih1 _ _ _ _ _ _ _
   | exact graph_Make.mono _ _
   | exact graph_May.mono _ _ _
   | exact graph_Order.mono _ _ _ _
   | exact graph_Turned.mono _ _ _
   | exact locksteplaw06_awake.mono _
   | exact lockstepref02_Ints.mono _ _ _
   | exact lockstepref06_Make.mono _ _
   | exact lockstepref06_May.mono _ _ _
   | exact lockstepref06_Order.mono _ _ _ _
   | exact lockstepref06_Same.mono _ _ _ _ _
   | exact lockstepref06_Small.mono _ _
   | exact LeO.none _
   | refine LeO.ite ?_ ?_
   | refine LeO.bind ?_ (fun _ => ?_)
  ·intro y0 y1 y2 y3 y4 y5 y6
   unfold locksteplaw06_GraphOrders.j1
   repeat' first
   | (with_reducible exact ih0 _ _ _ _)
   | (with_reducible exact ih1 _ _ _ _ _ _ _)
   | (with_reducible exact graph_Make.mono _ _)
   | (with_reducible exact graph_May.mono _ _ _)
   | (with_reducible exact graph_Order.mono _ _ _ _)
   | (with_reducible exact graph_Turned.mono _ _ _)
   | (with_reducible exact locksteplaw06_awake.mono _)
   | (with_reducible exact lockstepref02_Ints.mono _ _ _)
   | (with_reducible exact lockstepref06_Make.mono _ _)
   | (with_reducible exact lockstepref06_May.mono _ _ _)
   | (with_reducible exact lockstepref06_Order.mono _ _ _ _)
   | (with_reducible exact lockstepref06_Same.mono _ _ _ _ _)
   | (with_reducible exact lockstepref06_Small.mono _ _)
   | (with_reducible exact LeO.refl _)
   | (with_reducible exact LeO.none _)
   | (with_reducible refine LeO.ite ?_ ?_)
   | (with_reducible refine LeO.bind ?_ (fun _ => ?_))
   | exact ih0 _ _ _ _
   | exact ih1 _ _ _ _ _ _ _
   | exact graph_Make.mono _ _
   | exact graph_May.mono _ _ _
   | exact graph_Order.mono _ _ _ _
   | exact graph_Turned.mono _ _ _
   | exact locksteplaw06_awake.mono _
   | exact lockstepref02_Ints.mono _ _ _
   | exact lockstepref06_Make.mono _ _
   | exact lockstepref06_May.mono _ _ _
   | exact lockstepref06_Order.mono _ _ _ _
   | exact lockstepref06_Same.mono _ _ _ _ _
   | exact lockstepref06_Small.mono _ _
   | exact LeO.none _
   | refine LeO.ite ?_ ?_
   | refine LeO.bind ?_ (fun _ => ?_)
theorem locksteplaw06_GraphOrders.mono : ∀ a0 a1 a2 k, LeO (locksteplaw06_GraphOrders.f k a0 a1 a2) (locksteplaw06_GraphOrders.f (k + 1) a0 a1 a2) := by
 intro a0 a1 a2 k
 obtain ⟨ih0, ih1⟩ := locksteplaw06_GraphOrders.mono_l k
 unfold locksteplaw06_GraphOrders.f
 repeat' first
  | (with_reducible exact ih0 _ _ _ _)
  | (with_reducible exact ih1 _ _ _ _ _ _ _)
  | (with_reducible exact graph_Make.mono _ _)
  | (with_reducible exact graph_May.mono _ _ _)
  | (with_reducible exact graph_Order.mono _ _ _ _)
  | (with_reducible exact graph_Turned.mono _ _ _)
  | (with_reducible exact locksteplaw06_awake.mono _)
  | (with_reducible exact lockstepref02_Ints.mono _ _ _)
  | (with_reducible exact lockstepref06_Make.mono _ _)
  | (with_reducible exact lockstepref06_May.mono _ _ _)
  | (with_reducible exact lockstepref06_Order.mono _ _ _ _)
  | (with_reducible exact lockstepref06_Same.mono _ _ _ _ _)
  | (with_reducible exact lockstepref06_Small.mono _ _)
  | (with_reducible exact LeO.refl _)
  | (with_reducible exact LeO.none _)
  | (with_reducible refine LeO.ite ?_ ?_)
  | (with_reducible refine LeO.bind ?_ (fun _ => ?_))
  | exact ih0 _ _ _ _
  | exact ih1 _ _ _ _ _ _ _
  | exact graph_Make.mono _ _
  | exact graph_May.mono _ _ _
  | exact graph_Order.mono _ _ _ _
  | exact graph_Turned.mono _ _ _
  | exact locksteplaw06_awake.mono _
  | exact lockstepref02_Ints.mono _ _ _
  | exact lockstepref06_Make.mono _ _
  | exact lockstepref06_May.mono _ _ _
  | exact lockstepref06_Order.mono _ _ _ _
  | exact lockstepref06_Same.mono _ _ _ _ _
  | exact lockstepref06_Small.mono _ _
  | exact LeO.none _
  | refine LeO.ite ?_ ?_
  | refine LeO.bind ?_ (fun _ => ?_)
def locksteplaw06_GraphOrders.T8 : Bool × List (List Nat × List Nat) := (true, [([], []), ([], []), ([0, 1], [0, 1]), ([2], [2]), ([3, 2], [3]), ([4], [4]), ([4], [4]), ([5, 6, 4], [4, 5, 6]), ([4, 7], [4, 7]), ([8, 4], [8]), ([9], [9]), ([10, 9, 9], [9, 10]), ([9], [9]), ([12, 11, 9], [9, 12]), ([11, 13, 9], [9, 11, 13]), ([9, 14], [9, 14]), ([15, 13], [15]), ([16], [16]), ([16], [16]), ([17, 18, 16, 16], [16, 17, 18]), ([16], [16]), ([16], [16]), ([20, 21, 19, 16], [16, 20, 21]), ([19, 22, 22, 16], [16, 19, 22]), ([23, 16], [16, 23]), ([16, 24], [16, 24])])
def locksteplaw06_GraphOrders.B8 : List Nat := [0, 0, 3, 7, 15, 31, 31, 127, 255, 511, 1023, 2047, 1023, 8191, 16383, 32767, 65535, 131071, 131071, 524287, 131071, 131071, 4194303, 8388607, 16777215, 33554431]
theorem locksteplaw06_GraphOrders.tab8 : rtab .any (opsOf Try.f10 8) = locksteplaw06_GraphOrders.T8 := by kernel_rfl
theorem locksteplaw06_GraphOrders.bits8 : waitsOk locksteplaw06_GraphOrders.T8.2 locksteplaw06_GraphOrders.B8 = true := by kernel_rfl
def locksteplaw06_GraphOrders.T13 : Bool × List (List Nat × List Nat) := (true, [([], []), ([], []), ([0, 1], [0, 1]), ([], []), ([], []), ([3, 4, 2], [3, 4]), ([2, 5, 5], [2, 5]), ([6, 6], [6]), ([7], [7]), ([7], [7]), ([9, 7], [7, 9]), ([7], [7]), ([11, 7], [7, 11]), ([10, 12, 7], [7, 10, 12]), ([8, 13, 7, 7], [7, 8, 13]), ([7, 14], [7, 14]), ([15, 14], [15]), ([16], [16]), ([17, 16, 16], [16, 17]), ([16], [16]), ([18, 19, 18, 16], [16, 18, 19]), ([16, 20], [16, 20]), ([21, 20, 0, 1, 2, 3, 4, 5, 6, 7, 8, 9, 10, 11, 12, 13, 14, 15, 16, 17, 18, 19, 20, 21], [21])])
def locksteplaw06_GraphOrders.B13 : List Nat := [0, 0, 3, 0, 0, 31, 63, 127, 255, 255, 767, 255, 2303, 7935, 16383, 32767, 65535, 131071, 262143, 131071, 1048575, 2097151, 4194303]
theorem locksteplaw06_GraphOrders.tab13 : rtab .any (opsOf Try.f10 13) = locksteplaw06_GraphOrders.T13 := by kernel_rfl
theorem locksteplaw06_GraphOrders.bits13 : waitsOk locksteplaw06_GraphOrders.T13.2 locksteplaw06_GraphOrders.B13 = true := by kernel_rfl
set_option maxHeartbeats 8000000 in
set_option maxRecDepth 100000 in
theorem locksteplaw06_GraphOrders.calls (k : Nat) (A0 : Option Addr) (c0 : Nat) (l0 : List (List Int)) (A1 : Option Addr) (c1 : Nat) (l1 : List (List Int)) (a2 : Int) (w : World) (hr0 : Kd.C (Kd.slice 3 (Kd.int .i64)) w A0 l0.length l0) (hc0 : l0.length ≤ c0) (hr1 : Kd.C (Kd.slice 3 (Kd.int .i64)) w A1 l1.length l1) (hc1 : l1.length ≤ c1) (h : locksteplaw06_GraphOrders.f k l0 l1 a2 = some true) :
 Calls Try.prog 10 #[.slice A0 l0.length c0, .slice A1 l1.length c1, .int .i64 a2] w fun e w' => e = .returned (.bool true) ∧ Below w.heap.size w w' := by
 have hu45 := Try.underlying45
 have HR0 := Aside0.mk hr0
 have HC0 := Aside0.mk hc0
 clear hr0 hc0
 have HR1 := Aside0.mk hr1
 have HC1 := Aside0.mk hc1
 clear hr1 hc1
 have HB := Aside0.mk (Below.refl w.heap.size w)
 have H : ((locksteplaw06_awake.f k).bind fun t386 => (if t386 = true then ((lockstepref06_Small.f k l0).bind fun t387 => (if t387 = true then ((lockstepref06_Small.f k l1).bind fun t388 => (locksteplaw06_GraphOrders.j0 k l0 l1 a2 (!t388))) else (locksteplaw06_GraphOrders.j0 k l0 l1 a2 true))) else (some false))) = some true := h
 clear h
 replace H := Option.bind_eq_some_iff.mp H
 obtain ⟨t386, A40, H⟩ := H
 replace H : (if t386 = true then ((lockstepref06_Small.f k l0).bind fun t387 => (if t387 = true then ((lockstepref06_Small.f k l1).bind fun t388 => (locksteplaw06_GraphOrders.j0 k l0 l1 a2 (!t388))) else (locksteplaw06_GraphOrders.j0 k l0 l1 a2 true))) else (some false)) = some true := H
 have A4 := Aside0.mk A40
 clear A40
 by_cases c5 : t386 = true
 ·subst c5
  have H1 : ((lockstepref06_Small.f k l0).bind fun t387 => (if t387 = true then ((lockstepref06_Small.f k l1).bind fun t388 => (locksteplaw06_GraphOrders.j0 k l0 l1 a2 (!t388))) else (locksteplaw06_GraphOrders.j0 k l0 l1 a2 true))) = some true := by rw [if_pos rfl] at H; exact H
  clear H
  have H := H1
  clear H1
  have HC6 := Aside0.mk H
  clear H
  go_enter Try.func10, Try.ntmps10
  go_upto_region 3 with (first | ((with_reducible refine gate_callee (f := 21) rfl ?_); refine goesL_ (some 13) rfl rfl Try.func21 (by kernel_rfl) rfl #[] rfl (by (try simp only [List.map_toArray, List.map_cons, List.map_nil]); first | done | rfl | (simp only [List.length_drop, List.length_take]; rfl)) ?_; (with_reducible refine (locksteplaw06_awake.calls k   _ A4.out).mono ?_); rintro e w7 ⟨rfl, hb⟩; refine ⟨_, rfl, ?_⟩; have n0_ := Aside0.mk (below_step (B_) hb); clear HB; have HB := n0_; clear n0_; (try clear hb); (try clear hb2); (try clear hk); (try clear hi)))
  (try simp only [Act.put, List.setIfInBounds_toArray, List.set_cons_zero, List.set_cons_succ])
  go_cut [22] (fun v22 wc => ∃ (kq : Nat) (x22_5 : Bool), v22 = .bool x22_5 ∧ Aside0 (locksteplaw06_GraphOrders.j0 kq l0 l1 a2 x22_5 = some true) ∧ Aside0 (kq ≤ k) ∧ Aside0 (Below w.heap.size w wc))
  case first =>
   have H := HC6.out
   clear HC6
   replace H := Option.bind_eq_some_iff.mp H
   obtain ⟨t387, A80, H⟩ := H
   replace H : (if t387 = true then ((lockstepref06_Small.f k l1).bind fun t388 => (locksteplaw06_GraphOrders.j0 k l0 l1 a2 (!t388))) else (locksteplaw06_GraphOrders.j0 k l0 l1 a2 true)) = some true := H
   have A8 := Aside0.mk A80
   clear A80
   by_cases c9 : t387 = true
   ·subst c9
    have H1 : ((lockstepref06_Small.f k l1).bind fun t388 => (locksteplaw06_GraphOrders.j0 k l0 l1 a2 (!t388))) = some true := by rw [if_pos rfl] at H; exact H
    clear H
    have H := H1
    clear H1
    replace H := Option.bind_eq_some_iff.mp H
    obtain ⟨t388, A100, H⟩ := H
    replace H : (locksteplaw06_GraphOrders.j0 k l0 l1 a2 (!t388)) = some true := H
    have A10 := Aside0.mk A100
    clear A100
    have H' := Aside0.mk H
    clear H
    go_wp2_with (first | ((with_reducible refine gate_callee (f := 22) rfl ?_); refine goesL_ (some 16) rfl rfl Try.func22 (by kernel_rfl) rfl #[.slice A0 l0.length c0] rfl (by (try simp only [List.map_toArray, List.map_cons, List.map_nil]); first | done | rfl | (simp only [List.length_drop, List.length_take]; rfl)) ?_; (with_reducible refine (lockstepref06_Small.calls k _ _ l0 true _ ?side1 ?side2 A8.out).mono ?_); (case side1 => repeat (first | exact (Kd.C_below HR0.out HB.out) | (with_reducible refine Kd.C_alloc ?_ _) | (with_reducible refine Kd.C_drewN ?_ _) | (with_reducible refine Kd.C_drew ?_))); (case side2 => exact HC0.out); rintro e w' ⟨rfl, ⟨nd, rfl⟩⟩; refine ⟨_, rfl, ?_⟩) | (go_at_call 22; (with_reducible refine (lockstepref06_Small.calls k _ _ l1 t388 _ ?side1 ?side2 A10.out).mono ?_); (case side1 => repeat (first | exact (Kd.C_below HR1.out (B_)) | (with_reducible refine Kd.C_alloc ?_ _) | (with_reducible refine Kd.C_drewN ?_ _) | (with_reducible refine Kd.C_drew ?_))); (case side2 => exact HC1.out); rintro e w' ⟨rfl, ⟨nd, rfl⟩⟩))
    go_meet
    case rel => exact ⟨_, (!t388), (by first | rfl | exact congrArg (fun b => Ending.returned (Value.bool b)) HR_.out | (simp; done) | (simp [*]; done)), H', ⟨by first | omega | exact Nat.le_refl _⟩, ⟨B_⟩⟩
   replace c9 := Bool.eq_false_iff.mpr c9
   subst c9
   have H1 : (locksteplaw06_GraphOrders.j0 k l0 l1 a2 true) = some true := by rw [if_neg (show ¬ (false = true) by decide)] at H; exact H
   clear H
   have H := H1
   clear H1
   have H' := Aside0.mk H
   clear H
   go_wp2_with (first | ((with_reducible refine gate_callee (f := 22) rfl ?_); refine goesL_ (some 16) rfl rfl Try.func22 (by kernel_rfl) rfl #[.slice A0 l0.length c0] rfl (by (try simp only [List.map_toArray, List.map_cons, List.map_nil]); first | done | rfl | (simp only [List.length_drop, List.length_take]; rfl)) ?_; (with_reducible refine (lockstepref06_Small.calls k _ _ l0 false _ ?side1 ?side2 A8.out).mono ?_); (case side1 => repeat (first | exact (Kd.C_below HR0.out HB.out) | (with_reducible refine Kd.C_alloc ?_ _) | (with_reducible refine Kd.C_drewN ?_ _) | (with_reducible refine Kd.C_drew ?_))); (case side2 => exact HC0.out); rintro e w' ⟨rfl, ⟨nd, rfl⟩⟩; refine ⟨_, rfl, ?_⟩))
   go_meet
   case rel => exact ⟨_, (true), (by first | rfl | exact congrArg (fun b => Ending.returned (Value.bool b)) HR_.out | (simp; done) | (simp [*]; done)), H', ⟨by first | omega | exact Nat.le_refl _⟩, ⟨B_⟩⟩
  case rest =>
   clear HC6
   try clear c1
   try clear c2
   try clear p2
   try clear c5
   try clear c9
   try clear c10
   obtain ⟨kq, x22_5, rfl, HA, HJ5, HB⟩ := hcut
   cases kq with
   | zero => exact absurd HA.out (by simp [locksteplaw06_GraphOrders.j0])
   | succ kj5 =>
    have H := HA.out
    clear HA
    simp only [locksteplaw06_GraphOrders.j0] at H
    by_cases c11 : x22_5 = true
    ·subst c11
     have H1 : (some true) = some true := rfl
     clear H
     have H := H1
     clear H1
     clear H
     go_wp2
     go_ret
     exact ⟨by first | rfl | exact congrArg (fun b => Ending.returned (Value.bool b)) HR_.out | (simp [errW_none, errW_some] <;> rfl) | (simp [*, errW_none, errW_some] <;> rfl), B_⟩
    replace c11 := Bool.eq_false_iff.mpr c11
    subst c11
    have H1 : ((graph_Make.f kj5 l0).bind fun bt389 => ((lockstepref06_Make.f kj5 l0).bind fun bt397 => ((lockstepref06_Same.f kj5 bt389.1 bt389.2.1 bt397.1 bt397.2.1).bind fun t406 => (if t406 = true then (if bt389.2.2 = bt397.2.2 then ((graph_May.f kj5 l0 l1).bind fun t407 => ((lockstepref06_May.f kj5 l0 l1).bind fun t408 => (if (t407 != t408) = true then (locksteplaw06_GraphOrders.j1 kj5 a2 bt389.2.2 true bt389.1 bt389.2.1 bt397.1 bt397.2.1) else ((graph_Order.f kj5 l0 l1 a2).bind fun t409 => ((lockstepref06_Order.f kj5 l0 l1 a2).bind fun t412 => ((lockstepref02_Ints.f kj5 t409 t412).bind fun t415 => (locksteplaw06_GraphOrders.j1 kj5 a2 bt389.2.2 (!t415) bt389.1 bt389.2.1 bt397.1 bt397.2.1))))))) else (locksteplaw06_GraphOrders.j1 kj5 a2 bt389.2.2 true bt389.1 bt389.2.1 bt397.1 bt397.2.1)) else (locksteplaw06_GraphOrders.j1 kj5 a2 bt389.2.2 true bt389.1 bt389.2.1 bt397.1 bt397.2.1))))) = some true := by rw [if_neg (show ¬ (false = true) by decide)] at H; exact H
    clear H
    have H := H1
    clear H1
    replace H := Option.bind_eq_some_iff.mp H
    obtain ⟨⟨t389, t392, t395⟩, A120, H⟩ := H
    replace H : ((lockstepref06_Make.f kj5 l0).bind fun bt397 => ((lockstepref06_Same.f kj5 t389 t392 bt397.1 bt397.2.1).bind fun t406 => (if t406 = true then (if t395 = bt397.2.2 then ((graph_May.f kj5 l0 l1).bind fun t407 => ((lockstepref06_May.f kj5 l0 l1).bind fun t408 => (if (t407 != t408) = true then (locksteplaw06_GraphOrders.j1 kj5 a2 t395 true t389 t392 bt397.1 bt397.2.1) else ((graph_Order.f kj5 l0 l1 a2).bind fun t409 => ((lockstepref06_Order.f kj5 l0 l1 a2).bind fun t412 => ((lockstepref02_Ints.f kj5 t409 t412).bind fun t415 => (locksteplaw06_GraphOrders.j1 kj5 a2 t395 (!t415) t389 t392 bt397.1 bt397.2.1))))))) else (locksteplaw06_GraphOrders.j1 kj5 a2 t395 true t389 t392 bt397.1 bt397.2.1)) else (locksteplaw06_GraphOrders.j1 kj5 a2 t395 true t389 t392 bt397.1 bt397.2.1)))) = some true := H
    have A12 := Aside0.mk A120
    clear A120
    replace H := Option.bind_eq_some_iff.mp H
    obtain ⟨⟨t397, t400, t403⟩, A130, H⟩ := H
    replace H : ((lockstepref06_Same.f kj5 t389 t392 t397 t400).bind fun t406 => (if t406 = true then (if t395 = t403 then ((graph_May.f kj5 l0 l1).bind fun t407 => ((lockstepref06_May.f kj5 l0 l1).bind fun t408 => (if (t407 != t408) = true then (locksteplaw06_GraphOrders.j1 kj5 a2 t395 true t389 t392 t397 t400) else ((graph_Order.f kj5 l0 l1 a2).bind fun t409 => ((lockstepref06_Order.f kj5 l0 l1 a2).bind fun t412 => ((lockstepref02_Ints.f kj5 t409 t412).bind fun t415 => (locksteplaw06_GraphOrders.j1 kj5 a2 t395 (!t415) t389 t392 t397 t400))))))) else (locksteplaw06_GraphOrders.j1 kj5 a2 t395 true t389 t392 t397 t400)) else (locksteplaw06_GraphOrders.j1 kj5 a2 t395 true t389 t392 t397 t400))) = some true := H
    have A13 := Aside0.mk A130
    clear A130
    have HC14 := Aside0.mk H
    clear H
    go_upto_region 8 with (first | ((with_reducible refine gate_callee (f := 23) rfl ?_); refine goesL_ (some 25) rfl rfl Try.func23 (by kernel_rfl) rfl #[.slice A0 l0.length c0] rfl (by (try simp only [List.map_toArray, List.map_cons, List.map_nil]); first | done | rfl | (simp only [List.length_drop, List.length_take]; rfl)) ?_; (with_reducible refine (graph_Make.calls kj5 _ _ l0 t389 t392 t395 _ ?side1 ?side2 A12.out).mono ?_); (case side1 => repeat (first | exact (Kd.C_below HR0.out HB.out) | (with_reducible refine Kd.C_alloc ?_ _) | (with_reducible refine Kd.C_drewN ?_ _) | (with_reducible refine Kd.C_drew ?_))); (case side2 => exact HC0.out); rintro e w15 ⟨v390, v393, rfl, ho0, ho1, hb⟩; refine ⟨_, rfl, ?_⟩; have n0_ := Aside0.mk (Kd.S_lower ho0 (below_size (B_))); have n1_ := Aside0.mk (Kd.S_lower ho1 (below_size (B_))); have n2_ := Aside0.mk (below_step (B_) hb); clear HB; have HO391 := n0_; have HO394 := n1_; have HB := n2_; clear n0_ n1_ n2_; (try clear hb); (try clear hb2); (try clear hk); (try clear hi); (try clear ho0); (try clear ho1)) | ((with_reducible refine gate_dst (N := 7) rfl ?_); (try (refine gate_guard (by rfl) ?_; dsimp only)); refine box_event ?hg (N := 7) ?hd (cs := #[.slice none 0 0, .slice none 0 0]) (t := 45) ?hr ?_; (case hd => rfl); (case hg => rfl); (case hr => first | (go_simp; done) | (go_simp; rfl)); intro gb396 hg w16 hbox hb; have n0_ := Aside0.mk (Kd.S_below (by (with_reducible repeat (first | apply Kd.S_alloc | apply Kd.S_drewN | apply Kd.S_drew)); exact HO391.out) hb); have n1_ := Aside0.mk (Kd.S_below (by (with_reducible repeat (first | apply Kd.S_alloc | apply Kd.S_drewN | apply Kd.S_drew)); exact HO394.out) hb); have n2_ := Aside0.mk (below_step (B_) hb); have n3_ := Aside0.mk (hbox); have n4_ := Aside0.mk ((by rw [hg]; exact (below_size (B_)) : w.heap.size ≤ gb396)); have n5_ := Aside0.mk ((by rw [hg]; exact (below_size (B_)) : w.heap.size ≤ gb396)); clear HO391; clear HO394; clear HB; have HO391 := n0_; have HO394 := n1_; have HB := n2_; have BK396 := n3_; have GW396 := n4_; have GE396 := n5_; clear n0_ n1_ n2_ n3_ n4_ n5_; clear hb hbox hg; obtain ⟨Ao17, co17, eo17⟩ := Kd.S_slice HO391.out; subst eo17; have hcz18_0 : w16.cell? ⟨gb396, 0, none⟩ = some (.slice none 0 0) := (blk_cell BK396.out 0).trans rfl; have hcz18_1 : w16.cell? ⟨gb396, 1, none⟩ = some (.slice none 0 0) := (blk_cell BK396.out 1).trans rfl; have hfz18_0 := blk_frozen BK396.out 0; have hfz18_1 := blk_frozen BK396.out 1; obtain ⟨Ao19, co19, eo19⟩ := Kd.S_slice HO394.out; subst eo19) | ((with_reducible refine gate_store (t := 45) (p := 7) rfl ?_); refine store_event (t := 45) (p := 7) (v := ?vo_w20) (w1 := ((w16.setCell ⟨gb396, 0, none⟩ (.slice Ao17 t389.length co17)).setCell ⟨gb396, 1, none⟩ (.slice Ao19 t392.length co19))) ?hg ?ho ?hn ?hr ?_; (case ho => rfl); (case hg => rfl); (case hn => rfl); (case hr => first | (go_simp; done) | (go_simp; rfl)); intro w20 hw; have n0_ : Aside0 (Kd.S (Kd.slice 3 (Kd.int .i64)) 33 w20 w.heap.size (fun k_ => some k_ ≠ (.slice Ao19 t392.length co19 : Value).ownBlock) (.slice Ao17 t389.length co17) t389) := ⟨(by rw [hw]; exact (by (with_reducible repeat (first | apply Kd.S_alloc | apply Kd.S_drewN | apply Kd.S_drew)); exact Kd.S_mono (Kd.S_far (p := ⟨gb396, 1, none⟩) (Kd.S_far (p := ⟨gb396, 0, none⟩) (Kd.S_types HO391.out BK396.out (by decide)) (fun _ hk => hk.2) (.slice Ao17 t389.length co17)) (fun _ hk => hk.2) (.slice Ao19 t392.length co19)) (fun _ hk => hk.1)))⟩; have n1_ : Aside0 (Kd.S (Kd.slice 3 (Kd.int .i64)) 33 w20 w.heap.size (fun k_ => some k_ ≠ (.slice Ao17 t389.length co17 : Value).ownBlock) (.slice Ao19 t392.length co19) t392) := ⟨(by rw [hw]; exact (by (with_reducible repeat (first | apply Kd.S_alloc | apply Kd.S_drewN | apply Kd.S_drew)); exact Kd.S_mono (Kd.S_far (p := ⟨gb396, 1, none⟩) (Kd.S_far (p := ⟨gb396, 0, none⟩) (Kd.S_types HO394.out BK396.out (by decide)) (fun _ hk => hk.2) (.slice Ao17 t389.length co17)) (fun _ hk => hk.2) (.slice Ao19 t392.length co19)) (fun _ hk => hk.1)))⟩; have n2_ : Aside0 (w20.heap[gb396]? = some (.cells #[.slice Ao17 t389.length co17, .slice Ao19 t392.length co19] 45 (0, 0))) := ⟨(by rw [hw]; exact (by (with_reducible repeat (first | refine blk_drewN ?_ _ | refine blk_drew ?_ | refine blk_alloc ?_ _)); refine blk_put (cs := #[.slice Ao17 t389.length co17, .slice none 0 0]) ?_ 1 _ rfl; (with_reducible repeat (first | refine blk_drewN ?_ _ | refine blk_drew ?_ | refine blk_alloc ?_ _)); refine blk_put (cs := #[.slice none 0 0, .slice none 0 0]) ?_ 0 _ rfl; (with_reducible repeat (first | refine blk_drewN ?_ _ | refine blk_drew ?_ | refine blk_alloc ?_ _)); exact BK396.out))⟩; have n3_ : Aside0 (Below w.heap.size w w20) := ⟨(by rw [hw]; exact (B1_))⟩; clear hw; clear HO391; clear HO394; clear BK396; clear HB; have HO391 := n0_; have HO394 := n1_; have BK396 := n2_; have HB := n3_; clear n0_ n1_ n2_ n3_) | ((with_reducible refine gate_callee (f := 27) rfl ?_); refine goesL_ (some 30) rfl rfl Try.func27 (by kernel_rfl) rfl #[.slice A0 l0.length c0] rfl (by (try simp only [List.map_toArray, List.map_cons, List.map_nil]); first | done | rfl | (simp only [List.length_drop, List.length_take]; rfl)) ?_; (with_reducible refine (lockstepref06_Make.calls kj5 (fun k_ => k_ < w.heap.size) _ _ l0 t397 t400 t403 _ ?side1 A13.out).mono ?_); (case side1 => exact Kd.V_mk HC0.out (Kd.F_below (Kd.C_F (Kd.heap_slice 3 (Kd.heap_int .i64)) HR0.out) (B1_))); rintro e w21 ⟨v398, v401, rfl, ho0, ho1, hb⟩; refine ⟨_, rfl, ?_⟩; have n0_ := Aside0.mk (Kd.S_elder' (by (with_reducible repeat (first | apply Kd.S_alloc | apply Kd.S_drewN | apply Kd.S_drew)); exact HO391.out) (Kd.S_base ho1) hb); have n1_ := Aside0.mk (Kd.S_elder' (by (with_reducible repeat (first | apply Kd.S_alloc | apply Kd.S_drewN | apply Kd.S_drew)); exact HO394.out) (Kd.S_base ho1) hb); have n2_ := Aside0.mk (Kd.V_lower (Kd.V_mono (ok' := fun k_ => some k_ ≠ (v401 : Value).ownBlock ∧ some k_ ≠ (.slice Ao17 t389.length co17 : Value).ownBlock ∧ some k_ ≠ (.slice Ao19 t392.length co19 : Value).ownBlock ∧ k_ ≠ gb396) ho0 (fun k_ hk_ => ⟨hk_.2, Or.elim hk_.1 (fun hs_ => fun e_ => Nat.not_le.2 hs_ (Kd.S_base HO391.out k_ e_.symm)) (fun hn_ => (Kd.fresh' (Kd.S_lt (by (with_reducible repeat (first | apply Kd.S_alloc | apply Kd.S_drewN | apply Kd.S_drew)); exact HO391.out)) k_ hn_)), Or.elim hk_.1 (fun hs_ => fun e_ => Nat.not_le.2 hs_ (Kd.S_base HO394.out k_ e_.symm)) (fun hn_ => (Kd.fresh' (Kd.S_lt (by (with_reducible repeat (first | apply Kd.S_alloc | apply Kd.S_drewN | apply Kd.S_drew)); exact HO394.out)) k_ hn_)), Or.elim hk_.1 (fun hs_ => fun e_ => Nat.not_le.2 hs_ (by rw [e_]; exact GW396.out)) (fun hn_ => (Kd.freshB (g := gb396) (o := .cells #[.slice Ao17 t389.length co17, .slice Ao19 t392.length co19] 45 (0, 0)) (by (with_reducible repeat (first | refine blk_drewN ?_ _ | refine blk_drew ?_ | refine blk_alloc ?_ _)); exact BK396.out) k_ hn_))⟩)) (below_size (B1_))); have n3_ := Aside0.mk (Kd.S_lower (Kd.S_new' (Kd.S_new' (Kd.S_mono (ok' := fun k_ => True) ho1 (fun _ hk_ => trivial)) (Kd.S_lt (by (with_reducible repeat (first | apply Kd.S_alloc | apply Kd.S_drewN | apply Kd.S_drew)); exact HO391.out))) (Kd.S_lt (by (with_reducible repeat (first | apply Kd.S_alloc | apply Kd.S_drewN | apply Kd.S_drew)); exact HO394.out))) (below_size (B1_))); have n4_ := Aside0.mk (blk_below (g := gb396) (o := .cells #[.slice Ao17 t389.length co17, .slice Ao19 t392.length co19] 45 (0, 0)) (by (with_reducible repeat (first | refine blk_drewN ?_ _ | refine blk_drew ?_ | refine blk_alloc ?_ _)); exact BK396.out) hb); have n5_ := Aside0.mk (below_step (B1_) hb); clear HO391; clear HO394; clear BK396; clear HB; have HO391 := n0_; have HO394 := n1_; have HO399 := n2_; have HO402 := n3_; have BK396 := n4_; have HB := n5_; clear n0_ n1_ n2_ n3_ n4_ n5_; (try clear hb); (try clear hb2); (try clear hk); (try clear hi); (try clear ho0); (try clear ho1)) | ((with_reducible refine gate_dst (N := 9) rfl ?_); (try (refine gate_guard (by rfl) ?_; dsimp only)); refine box_event ?hg (N := 9) ?hd (cs := #[.slice none 0 0, .slice none 0 0]) (t := 45) ?hr ?_; (case hd => rfl); (case hg => rfl); (case hr => first | (go_simp; done) | (go_simp; rfl)); intro gb404 hg w22 hbox hb; have n0_ := Aside0.mk (Kd.S_below (by (with_reducible repeat (first | apply Kd.S_alloc | apply Kd.S_drewN | apply Kd.S_drew)); exact HO391.out) hb); have n1_ := Aside0.mk (Kd.S_below (by (with_reducible repeat (first | apply Kd.S_alloc | apply Kd.S_drewN | apply Kd.S_drew)); exact HO394.out) hb); have n2_ := Aside0.mk (Kd.V_below (Kd.V_elderB (by (with_reducible repeat (first | apply Kd.V_alloc | apply Kd.V_drewN | apply Kd.V_drew)); exact HO399.out) gb404 (Nat.le_of_eq hg.symm)) hb); have n3_ := Aside0.mk (Kd.S_below (by (with_reducible repeat (first | apply Kd.S_alloc | apply Kd.S_drewN | apply Kd.S_drew)); exact HO402.out) hb); have n4_ := Aside0.mk (blk_below (g := gb396) (o := .cells #[.slice Ao17 t389.length co17, .slice Ao19 t392.length co19] 45 (0, 0)) (by (with_reducible repeat (first | refine blk_drewN ?_ _ | refine blk_drew ?_ | refine blk_alloc ?_ _)); exact BK396.out) hb); have n5_ := Aside0.mk (below_step (B1_) hb); have n6_ := Aside0.mk (hbox); have n7_ := Aside0.mk ((by rw [hg]; exact (below_size (B1_)) : w.heap.size ≤ gb404)); have n8_ := Aside0.mk ((by rw [hg]; exact (below_size (B1_)) : w.heap.size ≤ gb404)); have n9_ := Aside0.mk ((by rw [hg]; exact Nat.ne_of_lt (blk_lt (g := gb396) (o := .cells #[.slice Ao17 t389.length co17, .slice Ao19 t392.length co19] 45 (0, 0)) (by (with_reducible repeat (first | refine blk_drewN ?_ _ | refine blk_drew ?_ | refine blk_alloc ?_ _)); exact BK396.out)) : gb396 ≠ gb404)); have n10_ := Aside0.mk ((by rw [hg]; exact Nat.ne_of_gt (blk_lt (g := gb396) (o := .cells #[.slice Ao17 t389.length co17, .slice Ao19 t392.length co19] 45 (0, 0)) (by (with_reducible repeat (first | refine blk_drewN ?_ _ | refine blk_drew ?_ | refine blk_alloc ?_ _)); exact BK396.out)) : gb404 ≠ gb396)); clear HO391; clear HO394; clear HO399; clear HO402; clear BK396; clear HB; have HO391 := n0_; have HO394 := n1_; have HO399 := n2_; have HO402 := n3_; have BK396 := n4_; have HB := n5_; have BK404 := n6_; have GW404 := n7_; have GE404 := n8_; have NB396_404 := n9_; have NB404_396 := n10_; clear n0_ n1_ n2_ n3_ n4_ n5_ n6_ n7_ n8_ n9_ n10_; clear hb hbox hg; obtain ⟨Ao23, co23, eo23⟩ := Kd.V_slice HO399.out; subst eo23; have hnb24 := NB404_396.out; have hnc24 := NB396_404.out; have hcz25_0 : w22.cell? ⟨gb404, 0, none⟩ = some (.slice none 0 0) := (blk_cell BK404.out 0).trans rfl; have hcz25_1 : w22.cell? ⟨gb404, 1, none⟩ = some (.slice none 0 0) := (blk_cell BK404.out 1).trans rfl; have hfz25_0 := blk_frozen BK404.out 0; have hfz25_1 := blk_frozen BK404.out 1; obtain ⟨Ao26, co26, eo26⟩ := Kd.S_slice HO402.out; subst eo26) | ((with_reducible refine gate_dst (N := 11) rfl ?_); (try (refine gate_guard (by rfl) ?_; dsimp only)); refine box_event ?hg (N := 11) ?hd (cs := #[.slice none 0 0, .slice none 0 0]) (t := 45) ?hr ?_; (case hd => rfl); (case hg => rfl); (case hr => first | (go_simp; done) | (go_simp; rfl)); intro gb405 hg w27 hbox hb; have n0_ := Aside0.mk (Kd.S_below (by (with_reducible repeat (first | apply Kd.S_alloc | apply Kd.S_drewN | apply Kd.S_drew)); exact (Kd.S_mono (Kd.S_far (p := ⟨gb404, 1, none⟩) (Kd.S_far (p := ⟨gb404, 0, none⟩) (Kd.S_types HO391.out BK404.out (by decide)) (fun _ hk => hk.2) (.slice Ao23 t397.length co23)) (fun _ hk => hk.2) (.slice Ao26 t400.length co26)) (fun _ h_ => h_.1))) hb); have n1_ := Aside0.mk (Kd.S_below (by (with_reducible repeat (first | apply Kd.S_alloc | apply Kd.S_drewN | apply Kd.S_drew)); exact (Kd.S_mono (Kd.S_far (p := ⟨gb404, 1, none⟩) (Kd.S_far (p := ⟨gb404, 0, none⟩) (Kd.S_types HO394.out BK404.out (by decide)) (fun _ hk => hk.2) (.slice Ao23 t397.length co23)) (fun _ hk => hk.2) (.slice Ao26 t400.length co26)) (fun _ h_ => h_.1))) hb); have n2_ := Aside0.mk (Kd.V_below (Kd.V_elderB (by (with_reducible repeat (first | apply Kd.V_alloc | apply Kd.V_drewN | apply Kd.V_drew)); exact (Kd.V_mono (Kd.V_far (p := ⟨gb404, 1, none⟩) (Kd.V_far (p := ⟨gb404, 0, none⟩) (Kd.V_mono HO399.out (fun k_ hk => (⟨hk, hk.2⟩ : _ ∧ k_ ≠ gb404))) (fun _ hk => hk.2) (.slice Ao23 t397.length co23)) (fun _ hk => hk.2) (.slice Ao26 t400.length co26)) (fun _ h_ => h_.1))) gb405 (Nat.le_of_eq hg.symm)) hb); have n3_ := Aside0.mk (Kd.S_below (by (with_reducible repeat (first | apply Kd.S_alloc | apply Kd.S_drewN | apply Kd.S_drew)); exact (Kd.S_mono (Kd.S_far (p := ⟨gb404, 1, none⟩) (Kd.S_far (p := ⟨gb404, 0, none⟩) (Kd.S_types HO402.out BK404.out (by decide)) (fun _ hk => hk.2) (.slice Ao23 t397.length co23)) (fun _ hk => hk.2) (.slice Ao26 t400.length co26)) (fun _ h_ => h_.1))) hb); have n4_ := Aside0.mk (blk_below (g := gb396) (o := .cells #[.slice Ao17 t389.length co17, .slice Ao19 t392.length co19] 45 (0, 0)) (by (with_reducible repeat (first | refine blk_drewN ?_ _ | refine blk_drew ?_ | refine blk_alloc ?_ _)); refine blk_far ?_ NB396_404.out _; (with_reducible repeat (first | refine blk_drewN ?_ _ | refine blk_drew ?_ | refine blk_alloc ?_ _)); refine blk_far ?_ NB396_404.out _; (with_reducible repeat (first | refine blk_drewN ?_ _ | refine blk_drew ?_ | refine blk_alloc ?_ _)); exact BK396.out) hb); have n5_ := Aside0.mk (blk_below (g := gb404) (o := .cells #[.slice Ao23 t397.length co23, .slice Ao26 t400.length co26] 45 (0, 0)) (by (with_reducible repeat (first | refine blk_drewN ?_ _ | refine blk_drew ?_ | refine blk_alloc ?_ _)); refine blk_put (cs := #[.slice Ao23 t397.length co23, .slice none 0 0]) ?_ 1 _ rfl; (with_reducible repeat (first | refine blk_drewN ?_ _ | refine blk_drew ?_ | refine blk_alloc ?_ _)); refine blk_put (cs := #[.slice none 0 0, .slice none 0 0]) ?_ 0 _ rfl; (with_reducible repeat (first | refine blk_drewN ?_ _ | refine blk_drew ?_ | refine blk_alloc ?_ _)); exact BK404.out) hb); have n6_ := Aside0.mk (below_step (B1_) hb); have n7_ := Aside0.mk (hbox); have n8_ := Aside0.mk ((by rw [hg]; exact (below_size (B1_)) : w.heap.size ≤ gb405)); have n9_ := Aside0.mk ((by rw [hg]; exact (below_size (B1_)) : w.heap.size ≤ gb405)); have n10_ := Aside0.mk ((by rw [hg]; exact Nat.ne_of_lt (blk_lt (g := gb396) (o := .cells #[.slice Ao17 t389.length co17, .slice Ao19 t392.length co19] 45 (0, 0)) (by (with_reducible repeat (first | refine blk_drewN ?_ _ | refine blk_drew ?_ | refine blk_alloc ?_ _)); refine blk_far ?_ NB396_404.out _; (with_reducible repeat (first | refine blk_drewN ?_ _ | refine blk_drew ?_ | refine blk_alloc ?_ _)); refine blk_far ?_ NB396_404.out _; (with_reducible repeat (first | refine blk_drewN ?_ _ | refine blk_drew ?_ | refine blk_alloc ?_ _)); exact BK396.out)) : gb396 ≠ gb405)); have n11_ := Aside0.mk ((by rw [hg]; exact Nat.ne_of_gt (blk_lt (g := gb396) (o := .cells #[.slice Ao17 t389.length co17, .slice Ao19 t392.length co19] 45 (0, 0)) (by (with_reducible repeat (first | refine blk_drewN ?_ _ | refine blk_drew ?_ | refine blk_alloc ?_ _)); refine blk_far ?_ NB396_404.out _; (with_reducible repeat (first | refine blk_drewN ?_ _ | refine blk_drew ?_ | refine blk_alloc ?_ _)); refine blk_far ?_ NB396_404.out _; (with_reducible repeat (first | refine blk_drewN ?_ _ | refine blk_drew ?_ | refine blk_alloc ?_ _)); exact BK396.out)) : gb405 ≠ gb396)); have n12_ := Aside0.mk ((by rw [hg]; exact Nat.ne_of_lt (blk_lt (g := gb404) (o := .cells #[.slice Ao23 t397.length co23, .slice Ao26 t400.length co26] 45 (0, 0)) (by (with_reducible repeat (first | refine blk_drewN ?_ _ | refine blk_drew ?_ | refine blk_alloc ?_ _)); refine blk_put (cs := #[.slice Ao23 t397.length co23, .slice none 0 0]) ?_ 1 _ rfl; (with_reducible repeat (first | refine blk_drewN ?_ _ | refine blk_drew ?_ | refine blk_alloc ?_ _)); refine blk_put (cs := #[.slice none 0 0, .slice none 0 0]) ?_ 0 _ rfl; (with_reducible repeat (first | refine blk_drewN ?_ _ | refine blk_drew ?_ | refine blk_alloc ?_ _)); exact BK404.out)) : gb404 ≠ gb405)); have n13_ := Aside0.mk ((by rw [hg]; exact Nat.ne_of_gt (blk_lt (g := gb404) (o := .cells #[.slice Ao23 t397.length co23, .slice Ao26 t400.length co26] 45 (0, 0)) (by (with_reducible repeat (first | refine blk_drewN ?_ _ | refine blk_drew ?_ | refine blk_alloc ?_ _)); refine blk_put (cs := #[.slice Ao23 t397.length co23, .slice none 0 0]) ?_ 1 _ rfl; (with_reducible repeat (first | refine blk_drewN ?_ _ | refine blk_drew ?_ | refine blk_alloc ?_ _)); refine blk_put (cs := #[.slice none 0 0, .slice none 0 0]) ?_ 0 _ rfl; (with_reducible repeat (first | refine blk_drewN ?_ _ | refine blk_drew ?_ | refine blk_alloc ?_ _)); exact BK404.out)) : gb405 ≠ gb404)); clear HO391; clear HO394; clear HO399; clear HO402; clear BK396; clear BK404; clear HB; have HO391 := n0_; have HO394 := n1_; have HO399 := n2_; have HO402 := n3_; have BK396 := n4_; have BK404 := n5_; have HB := n6_; have BK405 := n7_; have GW405 := n8_; have GE405 := n9_; have NB396_405 := n10_; have NB405_396 := n11_; have NB404_405 := n12_; have NB405_404 := n13_; clear n0_ n1_ n2_ n3_ n4_ n5_ n6_ n7_ n8_ n9_ n10_ n11_ n12_ n13_; clear hb hbox hg; have hnb28 := NB405_396.out; have hnc28 := NB396_405.out; have hnb29 := NB405_404.out; have hnc29 := NB404_405.out; have hcz30_0 : w27.cell? ⟨gb405, 0, none⟩ = some (.slice none 0 0) := (blk_cell BK405.out 0).trans rfl; have hcz30_1 : w27.cell? ⟨gb405, 1, none⟩ = some (.slice none 0 0) := (blk_cell BK405.out 1).trans rfl; have hfz30_0 := blk_frozen BK405.out 0; have hfz30_1 := blk_frozen BK405.out 1))
    (try simp only [Act.put, List.setIfInBounds_toArray, List.set_cons_zero, List.set_cons_succ])
    go_cut [61] (fun v61 wc => ∃ (kq : Nat) (x61_13 : Bool), v61 = .bool x61_13 ∧ Aside0 (locksteplaw06_GraphOrders.j1 kq a2 t395 x61_13 t389 t392 t397 t400 = some true) ∧ Aside0 (kq ≤ kj5) ∧ Aside0 (Kd.S (Kd.slice 3 (Kd.int .i64)) 33 wc w.heap.size (fun k_ => some k_ ≠ ((.slice Ao19 t392.length co19) : Value).ownBlock ∧ some k_ ≠ ((.slice Ao26 t400.length co26) : Value).ownBlock) (.slice Ao17 t389.length co17) t389) ∧ Aside0 (Kd.S (Kd.slice 3 (Kd.int .i64)) 33 wc w.heap.size (fun k_ => some k_ ≠ ((.slice Ao17 t389.length co17) : Value).ownBlock ∧ some k_ ≠ ((.slice Ao26 t400.length co26) : Value).ownBlock) (.slice Ao19 t392.length co19) t392) ∧ Aside0 (Kd.V (Kd.slice 3 (Kd.int .i64)) 33 wc w.heap.size (fun k_ => some k_ ≠ ((.slice Ao17 t389.length co17) : Value).ownBlock ∧ some k_ ≠ ((.slice Ao19 t392.length co19) : Value).ownBlock ∧ some k_ ≠ ((.slice Ao26 t400.length co26) : Value).ownBlock ∧ k_ ≠ gb396 ∧ k_ ≠ gb404 ∧ k_ ≠ gb405) (.slice Ao23 t397.length co23) t397) ∧ Aside0 (Kd.S (Kd.slice 3 (Kd.int .i64)) 33 wc w.heap.size (fun k_ => some k_ ≠ ((.slice Ao17 t389.length co17) : Value).ownBlock ∧ some k_ ≠ ((.slice Ao19 t392.length co19) : Value).ownBlock) (.slice Ao26 t400.length co26) t400) ∧ Aside0 (wc.heap[gb396]? = some (.cells #[(.slice Ao17 t389.length co17), (.slice Ao19 t392.length co19)] 45 (0, 0))) ∧ Aside0 (wc.heap[gb404]? = some (.cells #[(.slice Ao23 t397.length co23), (.slice Ao26 t400.length co26)] 45 (0, 0))) ∧ Aside0 (wc.heap[gb405]? = some (.cells #[(.slice A0 l0.length c0), (.slice A1 l1.length c1)] 45 (0, 0))) ∧ Aside0 (Below w.heap.size w wc))
    case first =>
     have H := HC14.out
     clear HC14
     replace H := Option.bind_eq_some_iff.mp H
     obtain ⟨t406, A310, H⟩ := H
     replace H : (if t406 = true then (if t395 = t403 then ((graph_May.f kj5 l0 l1).bind fun t407 => ((lockstepref06_May.f kj5 l0 l1).bind fun t408 => (if (t407 != t408) = true then (locksteplaw06_GraphOrders.j1 kj5 a2 t395 true t389 t392 t397 t400) else ((graph_Order.f kj5 l0 l1 a2).bind fun t409 => ((lockstepref06_Order.f kj5 l0 l1 a2).bind fun t412 => ((lockstepref02_Ints.f kj5 t409 t412).bind fun t415 => (locksteplaw06_GraphOrders.j1 kj5 a2 t395 (!t415) t389 t392 t397 t400))))))) else (locksteplaw06_GraphOrders.j1 kj5 a2 t395 true t389 t392 t397 t400)) else (locksteplaw06_GraphOrders.j1 kj5 a2 t395 true t389 t392 t397 t400)) = some true := H
     have A31 := Aside0.mk A310
     clear A310
     by_cases c32 : t406 = true
     ·subst c32
      have H1 : (if t395 = t403 then ((graph_May.f kj5 l0 l1).bind fun t407 => ((lockstepref06_May.f kj5 l0 l1).bind fun t408 => (if (t407 != t408) = true then (locksteplaw06_GraphOrders.j1 kj5 a2 t395 true t389 t392 t397 t400) else ((graph_Order.f kj5 l0 l1 a2).bind fun t409 => ((lockstepref06_Order.f kj5 l0 l1 a2).bind fun t412 => ((lockstepref02_Ints.f kj5 t409 t412).bind fun t415 => (locksteplaw06_GraphOrders.j1 kj5 a2 t395 (!t415) t389 t392 t397 t400))))))) else (locksteplaw06_GraphOrders.j1 kj5 a2 t395 true t389 t392 t397 t400)) = some true := by rw [if_pos rfl] at H; exact H
      clear H
      have H := H1
      clear H1
      by_cases c33 : t395 = t403
      ·rw [if_pos c33] at H
       have c33b0 : (t395 == t403) = true := beq_iff_eq.mpr c33
       have c33b1 : (t395 != t403) = false := bne_eq_false_iff_eq.mpr c33
       clear c33
       (first | rw [c33b0] | (simp only [i64_w, i32_w]; rw [c33b0]) | skip)
       replace H := Option.bind_eq_some_iff.mp H
       obtain ⟨t407, A340, H⟩ := H
       replace H : ((lockstepref06_May.f kj5 l0 l1).bind fun t408 => (if (t407 != t408) = true then (locksteplaw06_GraphOrders.j1 kj5 a2 t395 true t389 t392 t397 t400) else ((graph_Order.f kj5 l0 l1 a2).bind fun t409 => ((lockstepref06_Order.f kj5 l0 l1 a2).bind fun t412 => ((lockstepref02_Ints.f kj5 t409 t412).bind fun t415 => (locksteplaw06_GraphOrders.j1 kj5 a2 t395 (!t415) t389 t392 t397 t400)))))) = some true := H
       have A34 := Aside0.mk A340
       clear A340
       replace H := Option.bind_eq_some_iff.mp H
       obtain ⟨t408, A350, H⟩ := H
       replace H : (if (t407 != t408) = true then (locksteplaw06_GraphOrders.j1 kj5 a2 t395 true t389 t392 t397 t400) else ((graph_Order.f kj5 l0 l1 a2).bind fun t409 => ((lockstepref06_Order.f kj5 l0 l1 a2).bind fun t412 => ((lockstepref02_Ints.f kj5 t409 t412).bind fun t415 => (locksteplaw06_GraphOrders.j1 kj5 a2 t395 (!t415) t389 t392 t397 t400))))) = some true := H
       have A35 := Aside0.mk A350
       clear A350
       by_cases c36 : (t407 != t408) = true
       ·rw [if_pos c36] at H
        have c36b0 : (t407 != t408) = true := c36
        (try (have c36b1 : decide (t407 = t408) = false := by simpa using c36))
        (try (have c36b2 : (t407 == t408) = false := by simpa using c36))
        (try (have c36b3 : ¬ (t407 = t408) := by simpa using c36))
        clear c36
        have H' := Aside0.mk H
        clear H
        try go_wp2
        have n0_ : Aside0 (Kd.S (Kd.slice 3 (Kd.int .i64)) 33 ((w27.setCell ⟨gb405, 0, none⟩ (.slice A0 l0.length c0)).setCell ⟨gb405, 1, none⟩ (.slice A1 l1.length c1)) w.heap.size (fun k_ => some k_ ≠ (.slice Ao19 t392.length co19 : Value).ownBlock ∧ some k_ ≠ (.slice Ao26 t400.length co26 : Value).ownBlock) (.slice Ao17 t389.length co17) t389) := ⟨by (with_reducible repeat (first | apply Kd.S_alloc | apply Kd.S_drewN | apply Kd.S_drew)); exact Kd.S_mono (Kd.S_far (p := ⟨gb405, 1, none⟩) (Kd.S_far (p := ⟨gb405, 0, none⟩) (Kd.S_types HO391.out BK405.out (by decide)) (fun _ hk => hk.2) (.slice A0 l0.length c0)) (fun _ hk => hk.2) (.slice A1 l1.length c1)) (fun _ hk => ⟨hk.1.1, hk.1.2⟩)⟩
        have n1_ : Aside0 (Kd.S (Kd.slice 3 (Kd.int .i64)) 33 ((w27.setCell ⟨gb405, 0, none⟩ (.slice A0 l0.length c0)).setCell ⟨gb405, 1, none⟩ (.slice A1 l1.length c1)) w.heap.size (fun k_ => some k_ ≠ (.slice Ao17 t389.length co17 : Value).ownBlock ∧ some k_ ≠ (.slice Ao26 t400.length co26 : Value).ownBlock) (.slice Ao19 t392.length co19) t392) := ⟨by (with_reducible repeat (first | apply Kd.S_alloc | apply Kd.S_drewN | apply Kd.S_drew)); exact Kd.S_mono (Kd.S_far (p := ⟨gb405, 1, none⟩) (Kd.S_far (p := ⟨gb405, 0, none⟩) (Kd.S_types HO394.out BK405.out (by decide)) (fun _ hk => hk.2) (.slice A0 l0.length c0)) (fun _ hk => hk.2) (.slice A1 l1.length c1)) (fun _ hk => ⟨hk.1.1, hk.1.2⟩)⟩
        have n2_ : Aside0 (Kd.V (Kd.slice 3 (Kd.int .i64)) 33 ((w27.setCell ⟨gb405, 0, none⟩ (.slice A0 l0.length c0)).setCell ⟨gb405, 1, none⟩ (.slice A1 l1.length c1)) w.heap.size (fun k_ => some k_ ≠ (.slice Ao17 t389.length co17 : Value).ownBlock ∧ some k_ ≠ (.slice Ao19 t392.length co19 : Value).ownBlock ∧ some k_ ≠ (.slice Ao26 t400.length co26 : Value).ownBlock ∧ k_ ≠ gb396 ∧ k_ ≠ gb404 ∧ k_ ≠ gb405) (.slice Ao23 t397.length co23) t397) := ⟨by (with_reducible repeat (first | apply Kd.V_alloc | apply Kd.V_drewN | apply Kd.V_drew)); exact Kd.V_mono (Kd.V_far (p := ⟨gb405, 1, none⟩) (Kd.V_far (p := ⟨gb405, 0, none⟩) (Kd.V_mono HO399.out (fun k_ hk => (⟨hk, hk.2⟩ : _ ∧ k_ ≠ gb405))) (fun _ hk => hk.2) (.slice A0 l0.length c0)) (fun _ hk => hk.2) (.slice A1 l1.length c1)) (fun _ hk => ⟨hk.1.1.1.2.1, ⟨hk.1.1.1.2.2.1, ⟨hk.1.1.1.1, ⟨hk.1.1.1.2.2.2, ⟨hk.1.1.2, hk.1.2⟩⟩⟩⟩⟩)⟩
        have n3_ : Aside0 (Kd.S (Kd.slice 3 (Kd.int .i64)) 33 ((w27.setCell ⟨gb405, 0, none⟩ (.slice A0 l0.length c0)).setCell ⟨gb405, 1, none⟩ (.slice A1 l1.length c1)) w.heap.size (fun k_ => some k_ ≠ (.slice Ao17 t389.length co17 : Value).ownBlock ∧ some k_ ≠ (.slice Ao19 t392.length co19 : Value).ownBlock) (.slice Ao26 t400.length co26) t400) := ⟨by (with_reducible repeat (first | apply Kd.S_alloc | apply Kd.S_drewN | apply Kd.S_drew)); exact Kd.S_mono (Kd.S_far (p := ⟨gb405, 1, none⟩) (Kd.S_far (p := ⟨gb405, 0, none⟩) (Kd.S_types HO402.out BK405.out (by decide)) (fun _ hk => hk.2) (.slice A0 l0.length c0)) (fun _ hk => hk.2) (.slice A1 l1.length c1)) (fun _ hk => ⟨hk.1.1.2, hk.1.2⟩)⟩
        have n4_ : Aside0 (((w27.setCell ⟨gb405, 0, none⟩ (.slice A0 l0.length c0)).setCell ⟨gb405, 1, none⟩ (.slice A1 l1.length c1)).heap[gb396]? = some (.cells #[.slice Ao17 t389.length co17, .slice Ao19 t392.length co19] 45 (0, 0))) := ⟨by (with_reducible repeat (first | refine blk_drewN ?_ _ | refine blk_drew ?_ | refine blk_alloc ?_ _)); refine blk_far ?_ NB396_405.out _; (with_reducible repeat (first | refine blk_drewN ?_ _ | refine blk_drew ?_ | refine blk_alloc ?_ _)); refine blk_far ?_ NB396_405.out _; (with_reducible repeat (first | refine blk_drewN ?_ _ | refine blk_drew ?_ | refine blk_alloc ?_ _)); exact BK396.out⟩
        have n5_ : Aside0 (((w27.setCell ⟨gb405, 0, none⟩ (.slice A0 l0.length c0)).setCell ⟨gb405, 1, none⟩ (.slice A1 l1.length c1)).heap[gb404]? = some (.cells #[.slice Ao23 t397.length co23, .slice Ao26 t400.length co26] 45 (0, 0))) := ⟨by (with_reducible repeat (first | refine blk_drewN ?_ _ | refine blk_drew ?_ | refine blk_alloc ?_ _)); refine blk_far ?_ NB404_405.out _; (with_reducible repeat (first | refine blk_drewN ?_ _ | refine blk_drew ?_ | refine blk_alloc ?_ _)); refine blk_far ?_ NB404_405.out _; (with_reducible repeat (first | refine blk_drewN ?_ _ | refine blk_drew ?_ | refine blk_alloc ?_ _)); exact BK404.out⟩
        have n6_ : Aside0 (((w27.setCell ⟨gb405, 0, none⟩ (.slice A0 l0.length c0)).setCell ⟨gb405, 1, none⟩ (.slice A1 l1.length c1)).heap[gb405]? = some (.cells #[.slice A0 l0.length c0, .slice A1 l1.length c1] 45 (0, 0))) := ⟨by (with_reducible repeat (first | refine blk_drewN ?_ _ | refine blk_drew ?_ | refine blk_alloc ?_ _)); refine blk_put (cs := #[.slice A0 l0.length c0, .slice none 0 0]) ?_ 1 _ rfl; (with_reducible repeat (first | refine blk_drewN ?_ _ | refine blk_drew ?_ | refine blk_alloc ?_ _)); refine blk_put (cs := #[.slice none 0 0, .slice none 0 0]) ?_ 0 _ rfl; (with_reducible repeat (first | refine blk_drewN ?_ _ | refine blk_drew ?_ | refine blk_alloc ?_ _)); exact BK405.out⟩
        have n7_ : Aside0 (Below w.heap.size w ((w27.setCell ⟨gb405, 0, none⟩ (.slice A0 l0.length c0)).setCell ⟨gb405, 1, none⟩ (.slice A1 l1.length c1))) := ⟨B1_⟩
        (try clear HO391)
        (try clear HO394)
        (try clear HO399)
        (try clear HO402)
        (try clear BK396)
        (try clear BK404)
        (try clear BK405)
        (try clear HB)
        generalize ((w27.setCell ⟨gb405, 0, none⟩ (.slice A0 l0.length c0)).setCell ⟨gb405, 1, none⟩ (.slice A1 l1.length c1)) = w37 at n0_ n1_ n2_ n3_ n4_ n5_ n6_ n7_ ⊢
        have HO391 := n0_
        have HO394 := n1_
        have HO399 := n2_
        have HO402 := n3_
        have BK396 := n4_
        have BK404 := n5_
        have BK405 := n6_
        have HB := n7_
        clear n0_ n1_ n2_ n3_ n4_ n5_ n6_ n7_
        have n0_ := Aside0.mk (Kd.S_drew HO391.out)
        have n1_ := Aside0.mk (Kd.S_drew HO394.out)
        have n2_ := Aside0.mk (Kd.V_drew HO399.out)
        have n3_ := Aside0.mk (Kd.S_drew HO402.out)
        have n4_ := Aside0.mk (blk_drew BK396.out)
        have n5_ := Aside0.mk (blk_drew BK404.out)
        have n6_ := Aside0.mk (blk_drew BK405.out)
        have n7_ := Aside0.mk (below_drew1 HB.out)
        clear HO391
        clear HO394
        clear HO399
        clear HO402
        clear BK396
        clear BK404
        clear BK405
        clear HB
        have HO391 := n0_
        have HO394 := n1_
        have HO399 := n2_
        have HO402 := n3_
        have BK396 := n4_
        have BK404 := n5_
        have BK405 := n6_
        have HB := n7_
        clear n0_ n1_ n2_ n3_ n4_ n5_ n6_ n7_
        refine start_ (n := 26) (S := fun w' => w'.cell? ⟨gb396, 0, none⟩ = some (.slice Ao17 t389.length co17) ∧ w'.cell? ⟨gb396, 1, none⟩ = some (.slice Ao19 t392.length co19) ∧ w'.cell? ⟨gb404, 0, none⟩ = some (.slice Ao23 t397.length co23) ∧ w'.cell? ⟨gb404, 1, none⟩ = some (.slice Ao26 t400.length co26) ∧ w'.cell? ⟨gb405, 0, none⟩ = some (.slice A0 l0.length c0) ∧ w'.cell? ⟨gb405, 1, none⟩ = some (.slice A1 l1.length c1)) (ds := []) #[F_,F_,F_,F_,F_,F_,F_,F_,F_,F_,F_,F_,F_,F_,F_,F_,F_,F_,F_,F_,F_,F_,F_,F_,F_,F_] (by kernel_rfl) rfl rfl ⟨(blk_cell BK396.out 0).trans rfl, (blk_cell BK396.out 1).trans rfl, (blk_cell BK404.out 0).trans rfl, (blk_cell BK404.out 1).trans rfl, (blk_cell BK405.out 0).trans rfl, (blk_cell BK405.out 1).trans rfl⟩ (fun hHeld => ?_); refine with_tabW locksteplaw06_GraphOrders.tab8 locksteplaw06_GraphOrders.bits8 (fun HT_ HW_ => ?_)
        generalize w37.drew = w38 at HO391 HO394 HO399 HO402 BK396 BK404 BK405 HB hHeld ⊢
        refine take_ (i := 0) (N := some 36) (v := ?_) (a' := ?_) #[T_,F_,F_,F_,F_,F_,F_,F_,F_,F_,F_,F_,F_,F_,F_,F_,F_,F_,F_,F_,F_,F_,F_,F_,F_,F_] rfl rfl (take_ofW HT_.out HW_.out (by kernel_rfl)) (fun _ _ _ h => h) (Or.inl ⟨by rfl, ?_⟩) hHeld ?_ ?_
        rotate_left
        ·rintro w' ⟨s0, s1, s2, s3, s4, s5⟩
         go_simp
         with_reducible rfl
        rotate_left
        ·simp only [Act.put, List.setIfInBounds_toArray, List.set_cons_zero, List.set_cons_succ, i64_w, i32_w]
         rfl
        refine take_ (i := 1) (N := some 37) (v := ?_) (a' := ?_) #[T_,T_,F_,F_,F_,F_,F_,F_,F_,F_,F_,F_,F_,F_,F_,F_,F_,F_,F_,F_,F_,F_,F_,F_,F_,F_] rfl rfl (take_ofW HT_.out HW_.out (by kernel_rfl)) (fun _ _ _ h => h) (Or.inl ⟨by rfl, ?_⟩) hHeld ?_ ?_
        rotate_left
        ·rintro w' ⟨s0, s1, s2, s3, s4, s5⟩
         go_simp
         with_reducible rfl
        rotate_left
        ·simp only [Act.put, List.setIfInBounds_toArray, List.set_cons_zero, List.set_cons_succ, i64_w, i32_w]
         rfl
        refine one_ (i := 2) (N := some 38) #[T_,T_,T_,F_,F_,F_,F_,F_,F_,F_,F_,F_,F_,F_,F_,F_,F_,F_,F_,F_,F_,F_,F_,F_,F_,F_] rfl rfl (one_of HT_.out (by kernel_rfl)) (by decide) (fun K hK => ?_)
        refine goes_ Try.func28 (by kernel_rfl) rfl #[.agg #[.slice Ao17 t389.length co17, .slice Ao19 t392.length co19], .agg #[.slice Ao23 t397.length co23, .slice Ao26 t400.length co26]] (by rfl) rfl rfl (by (try simp only [List.map_toArray, List.map_cons, List.map_nil]); first | done | rfl | (simp only [List.length_drop, List.length_take]; rfl)) ?_
        with_reducible refine (lockstepref06_Same.calls kj5 _ _ t389 _ _ t392 _ _ t397 _ _ t400 true _ ?side1 ?side2 ?side3 ?side4 ?side5 ?side6 ?side7 ?side8 A31.out).mono ?_
        (case side1 => repeat (first | exact (Kd.S_reads' HO391.out).2.2 | (with_reducible refine Kd.C_alloc ?_ _) | (with_reducible refine Kd.C_drewN ?_ _) | (with_reducible refine Kd.C_drew ?_)))
        (case side2 => exact (Kd.S_reads' HO391.out).2.1)
        (case side3 => repeat (first | exact (Kd.S_reads' HO394.out).2.2 | (with_reducible refine Kd.C_alloc ?_ _) | (with_reducible refine Kd.C_drewN ?_ _) | (with_reducible refine Kd.C_drew ?_)))
        (case side4 => exact (Kd.S_reads' HO394.out).2.1)
        (case side5 => repeat (first | exact (Kd.V_reads' HO399.out).2.2 | (with_reducible refine Kd.C_alloc ?_ _) | (with_reducible refine Kd.C_drewN ?_ _) | (with_reducible refine Kd.C_drew ?_)))
        (case side6 => exact (Kd.V_reads' HO399.out).2.1)
        (case side7 => repeat (first | exact (Kd.S_reads' HO402.out).2.2 | (with_reducible refine Kd.C_alloc ?_ _) | (with_reducible refine Kd.C_drewN ?_ _) | (with_reducible refine Kd.C_drew ?_)))
        (case side8 => exact (Kd.S_reads' HO402.out).2.1)
        rintro e w39 ⟨rfl, hb⟩
        refine ⟨_, rfl, ?_⟩
        have n0_ := Aside0.mk (Kd.S_below (by (with_reducible repeat (first | apply Kd.S_alloc | apply Kd.S_drewN | apply Kd.S_drew)); exact HO391.out) hb)
        have n1_ := Aside0.mk (Kd.S_below (by (with_reducible repeat (first | apply Kd.S_alloc | apply Kd.S_drewN | apply Kd.S_drew)); exact HO394.out) hb)
        have n2_ := Aside0.mk (Kd.V_below (by (with_reducible repeat (first | apply Kd.V_alloc | apply Kd.V_drewN | apply Kd.V_drew)); exact HO399.out) hb)
        have n3_ := Aside0.mk (Kd.S_below (by (with_reducible repeat (first | apply Kd.S_alloc | apply Kd.S_drewN | apply Kd.S_drew)); exact HO402.out) hb)
        have n4_ := Aside0.mk (blk_below (g := gb396) (o := .cells #[.slice Ao17 t389.length co17, .slice Ao19 t392.length co19] 45 (0, 0)) (by (with_reducible repeat (first | refine blk_drewN ?_ _ | refine blk_drew ?_ | refine blk_alloc ?_ _)); exact BK396.out) hb)
        have n5_ := Aside0.mk (blk_below (g := gb404) (o := .cells #[.slice Ao23 t397.length co23, .slice Ao26 t400.length co26] 45 (0, 0)) (by (with_reducible repeat (first | refine blk_drewN ?_ _ | refine blk_drew ?_ | refine blk_alloc ?_ _)); exact BK404.out) hb)
        have n6_ := Aside0.mk (blk_below (g := gb405) (o := .cells #[.slice A0 l0.length c0, .slice A1 l1.length c1] 45 (0, 0)) (by (with_reducible repeat (first | refine blk_drewN ?_ _ | refine blk_drew ?_ | refine blk_alloc ?_ _)); exact BK405.out) hb)
        have n7_ := Aside0.mk (below_step (B1_) hb)
        clear HO391
        clear HO394
        clear HO399
        clear HO402
        clear BK396
        clear BK404
        clear BK405
        clear HB
        have HO391 := n0_
        have HO394 := n1_
        have HO399 := n2_
        have HO402 := n3_
        have BK396 := n4_
        have BK404 := n5_
        have BK405 := n6_
        have HB := n7_
        clear n0_ n1_ n2_ n3_ n4_ n5_ n6_ n7_
        (try clear hb)
        (try clear hb2)
        (try clear hk)
        (try clear hi)
        refine hK.out _ _ ⟨(blk_cell BK396.out 0).trans rfl, (blk_cell BK396.out 1).trans rfl, (blk_cell BK404.out 0).trans rfl, (blk_cell BK404.out 1).trans rfl, (blk_cell BK405.out 0).trans rfl, (blk_cell BK405.out 1).trans rfl⟩ (fun hHeld => ?_)
        clear hK K
        refine norm_ (a' := ?_) ?_ ?_
        rotate_left
        ·show Act.put _ (some 38) _ = _
         simp only [Act.put, List.setIfInBounds_toArray, List.set_cons_zero, List.set_cons_succ, i64_w, i32_w]
         rfl
        refine pure_ (i := 3) (N := some 39) (v := ?_) (a' := ?_) #[T_,T_,T_,T_,F_,F_,F_,F_,F_,F_,F_,F_,F_,F_,F_,F_,F_,F_,F_,F_,F_,F_,F_,F_,F_,F_] rfl rfl (any_of HT_.out (by kernel_rfl)) (fun _ _ _ h => h) (Or.inl ⟨by rfl, ?_⟩) ?_ ?_
        rotate_left
        ·intro w'
         go_simp
         with_reducible rfl
        rotate_left
        ·simp only [Act.put, List.setIfInBounds_toArray, List.set_cons_zero, List.set_cons_succ, i64_w, i32_w]
         rfl
        refine pure_ (i := 4) (N := some 40) (v := ?_) (a' := ?_) #[T_,T_,T_,T_,T_,F_,F_,F_,F_,F_,F_,F_,F_,F_,F_,F_,F_,F_,F_,F_,F_,F_,F_,F_,F_,F_] rfl rfl (any_of HT_.out (by kernel_rfl)) (fun _ _ _ h => h) (Or.inl ⟨by rfl, ?_⟩) ?_ ?_
        rotate_left
        ·intro w'
         go_simp
         with_reducible rfl
        rotate_left
        ·simp only [Act.put, List.setIfInBounds_toArray, List.set_cons_zero, List.set_cons_succ, i64_w, i32_w]
         rfl
        refine pure_ (i := 5) (N := some 41) (v := ?_) (a' := ?_) #[T_,T_,T_,T_,T_,T_,F_,F_,F_,F_,F_,F_,F_,F_,F_,F_,F_,F_,F_,F_,F_,F_,F_,F_,F_,F_] rfl rfl (any_of HT_.out (by kernel_rfl)) (fun _ _ _ h => h) (Or.inl ⟨by rfl, ?_⟩) ?_ ?_
        rotate_left
        ·intro w'
         go_simp
         with_reducible rfl
        rotate_left
        ·simp only [Act.put, List.setIfInBounds_toArray, List.set_cons_zero, List.set_cons_succ, i64_w, i32_w]
         rfl
        refine pure_ (i := 6) (N := some 42) (v := ?_) (a' := ?_) #[T_,T_,T_,T_,T_,T_,T_,F_,F_,F_,F_,F_,F_,F_,F_,F_,F_,F_,F_,F_,F_,F_,F_,F_,F_,F_] rfl rfl (any_of HT_.out (by kernel_rfl)) (fun _ _ _ h => h) (Or.inl ⟨by rfl, ?_⟩) ?_ ?_
        rotate_left
        ·intro w'
         go_simp
         with_reducible rfl
        rotate_left
        ·simp only [Act.put, List.setIfInBounds_toArray, List.set_cons_zero, List.set_cons_succ, i64_w, i32_w]
         rfl
        refine pure_ (i := 7) (N := some 43) (v := ?_) (a' := ?_) #[T_,T_,T_,T_,T_,T_,T_,T_,F_,F_,F_,F_,F_,F_,F_,F_,F_,F_,F_,F_,F_,F_,F_,F_,F_,F_] rfl rfl (any_of HT_.out (by kernel_rfl)) (fun _ _ _ h => h) (Or.inl ⟨by rfl, ?_⟩) ?_ ?_
        rotate_left
        ·intro w'
         go_simp
         with_reducible rfl
        rotate_left
        ·simp only [Act.put, List.setIfInBounds_toArray, List.set_cons_zero, List.set_cons_succ, i64_w, i32_w]
         rfl
        refine pure_ (i := 8) (N := some 44) (v := ?_) (a' := ?_) #[T_,T_,T_,T_,T_,T_,T_,T_,T_,F_,F_,F_,F_,F_,F_,F_,F_,F_,F_,F_,F_,F_,F_,F_,F_,F_] rfl rfl (any_of HT_.out (by kernel_rfl)) (fun _ _ _ h => h) (Or.inl ⟨by rfl, ?_⟩) ?_ ?_
        rotate_left
        ·intro w'
         go_simp
         with_reducible rfl
        rotate_left
        ·simp only [Act.put, List.setIfInBounds_toArray, List.set_cons_zero, List.set_cons_succ, i64_w, i32_w]
         rfl
        refine pure_ (i := 9) (N := some 45) (v := ?_) (a' := ?_) #[T_,T_,T_,T_,T_,T_,T_,T_,T_,T_,F_,F_,F_,F_,F_,F_,F_,F_,F_,F_,F_,F_,F_,F_,F_,F_] rfl rfl (any_of HT_.out (by kernel_rfl)) (fun _ _ _ h => h) (Or.inl ⟨by rfl, ?_⟩) ?_ ?_
        rotate_left
        ·intro w'
         go_simp
         with_reducible rfl
        rotate_left
        ·simp only [Act.put, List.setIfInBounds_toArray, List.set_cons_zero, List.set_cons_succ, i64_w, i32_w]
         rfl
        refine take_ (i := 10) (N := some 46) (v := ?_) (a' := ?_) #[T_,T_,T_,T_,T_,T_,T_,T_,T_,T_,T_,F_,F_,F_,F_,F_,F_,F_,F_,F_,F_,F_,F_,F_,F_,F_] rfl rfl (take_ofW HT_.out HW_.out (by kernel_rfl)) (fun _ _ _ h => h) (Or.inl ⟨by rfl, ?_⟩) hHeld ?_ ?_
        rotate_left
        ·rintro w' ⟨s0, s1, s2, s3, s4, s5⟩
         go_simp
         with_reducible rfl
        rotate_left
        ·simp only [Act.put, List.setIfInBounds_toArray, List.set_cons_zero, List.set_cons_succ, i64_w, i32_w]
         rfl
        refine take_ (i := 12) (N := some 48) (v := ?_) (a' := ?_) #[T_,T_,T_,T_,T_,T_,T_,T_,T_,T_,T_,F_,T_,F_,F_,F_,F_,F_,F_,F_,F_,F_,F_,F_,F_,F_] rfl rfl (take_ofW HT_.out HW_.out (by kernel_rfl)) (fun _ _ _ h => h) (Or.inl ⟨by rfl, ?_⟩) hHeld ?_ ?_
        rotate_left
        ·rintro w' ⟨s0, s1, s2, s3, s4, s5⟩
         go_simp
         with_reducible rfl
        rotate_left
        ·simp only [Act.put, List.setIfInBounds_toArray, List.set_cons_zero, List.set_cons_succ, i64_w, i32_w]
         rfl
        refine one_ (i := 11) (N := some 47) #[T_,T_,T_,T_,T_,T_,T_,T_,T_,T_,T_,T_,T_,F_,F_,F_,F_,F_,F_,F_,F_,F_,F_,F_,F_,F_] rfl rfl (one_of HT_.out (by kernel_rfl)) (by decide) (fun K hK => ?_)
        refine goes_ Try.func29 (by kernel_rfl) rfl #[.agg #[.slice A0 l0.length c0, .slice A1 l1.length c1]] (by rfl) rfl rfl (by (try simp only [List.map_toArray, List.map_cons, List.map_nil]); first | done | rfl | (simp only [List.length_drop, List.length_take]; rfl)) ?_
        with_reducible refine (graph_May.calls kj5 _ _ l0 _ _ l1 t407 _ ?side1 ?side2 ?side3 ?side4 A34.out).mono ?_
        (case side1 => repeat (first | exact (Kd.C_below HR0.out HB.out) | (with_reducible refine Kd.C_alloc ?_ _) | (with_reducible refine Kd.C_drewN ?_ _) | (with_reducible refine Kd.C_drew ?_)))
        (case side2 => exact HC0.out)
        (case side3 => repeat (first | exact (Kd.C_below HR1.out HB.out) | (with_reducible refine Kd.C_alloc ?_ _) | (with_reducible refine Kd.C_drewN ?_ _) | (with_reducible refine Kd.C_drew ?_)))
        (case side4 => exact HC1.out)
        rintro e w40 ⟨rfl, hb⟩
        refine ⟨_, rfl, ?_⟩
        have n0_ := Aside0.mk (Kd.S_below (by (with_reducible repeat (first | apply Kd.S_alloc | apply Kd.S_drewN | apply Kd.S_drew)); exact HO391.out) hb)
        have n1_ := Aside0.mk (Kd.S_below (by (with_reducible repeat (first | apply Kd.S_alloc | apply Kd.S_drewN | apply Kd.S_drew)); exact HO394.out) hb)
        have n2_ := Aside0.mk (Kd.V_below (by (with_reducible repeat (first | apply Kd.V_alloc | apply Kd.V_drewN | apply Kd.V_drew)); exact HO399.out) hb)
        have n3_ := Aside0.mk (Kd.S_below (by (with_reducible repeat (first | apply Kd.S_alloc | apply Kd.S_drewN | apply Kd.S_drew)); exact HO402.out) hb)
        have n4_ := Aside0.mk (blk_below (g := gb396) (o := .cells #[.slice Ao17 t389.length co17, .slice Ao19 t392.length co19] 45 (0, 0)) (by (with_reducible repeat (first | refine blk_drewN ?_ _ | refine blk_drew ?_ | refine blk_alloc ?_ _)); exact BK396.out) hb)
        have n5_ := Aside0.mk (blk_below (g := gb404) (o := .cells #[.slice Ao23 t397.length co23, .slice Ao26 t400.length co26] 45 (0, 0)) (by (with_reducible repeat (first | refine blk_drewN ?_ _ | refine blk_drew ?_ | refine blk_alloc ?_ _)); exact BK404.out) hb)
        have n6_ := Aside0.mk (blk_below (g := gb405) (o := .cells #[.slice A0 l0.length c0, .slice A1 l1.length c1] 45 (0, 0)) (by (with_reducible repeat (first | refine blk_drewN ?_ _ | refine blk_drew ?_ | refine blk_alloc ?_ _)); exact BK405.out) hb)
        have n7_ := Aside0.mk (below_step (B1_) hb)
        clear HO391
        clear HO394
        clear HO399
        clear HO402
        clear BK396
        clear BK404
        clear BK405
        clear HB
        have HO391 := n0_
        have HO394 := n1_
        have HO399 := n2_
        have HO402 := n3_
        have BK396 := n4_
        have BK404 := n5_
        have BK405 := n6_
        have HB := n7_
        clear n0_ n1_ n2_ n3_ n4_ n5_ n6_ n7_
        (try clear hb)
        (try clear hb2)
        (try clear hk)
        (try clear hi)
        refine hK.out _ _ ⟨(blk_cell BK396.out 0).trans rfl, (blk_cell BK396.out 1).trans rfl, (blk_cell BK404.out 0).trans rfl, (blk_cell BK404.out 1).trans rfl, (blk_cell BK405.out 0).trans rfl, (blk_cell BK405.out 1).trans rfl⟩ (fun hHeld => ?_)
        clear hK K
        refine norm_ (a' := ?_) ?_ ?_
        rotate_left
        ·show Act.put _ (some 47) _ = _
         simp only [Act.put, List.setIfInBounds_toArray, List.set_cons_zero, List.set_cons_succ, i64_w, i32_w]
         rfl
        refine one_ (i := 13) (N := some 49) #[T_,T_,T_,T_,T_,T_,T_,T_,T_,T_,T_,T_,T_,T_,F_,F_,F_,F_,F_,F_,F_,F_,F_,F_,F_,F_] rfl rfl (one_of HT_.out (by kernel_rfl)) (by decide) (fun K hK => ?_)
        refine goes_ Try.func26 (by kernel_rfl) rfl #[.agg #[.slice A0 l0.length c0, .slice A1 l1.length c1]] (by rfl) rfl rfl (by (try simp only [List.map_toArray, List.map_cons, List.map_nil]); first | done | rfl | (simp only [List.length_drop, List.length_take]; rfl)) ?_
        with_reducible refine (lockstepref06_May.calls kj5 _ _ l0 _ _ l1 t408 _ ?side1 ?side2 ?side3 ?side4 A35.out).mono ?_
        (case side1 => repeat (first | exact (Kd.C_below HR0.out HB.out) | (with_reducible refine Kd.C_alloc ?_ _) | (with_reducible refine Kd.C_drewN ?_ _) | (with_reducible refine Kd.C_drew ?_)))
        (case side2 => exact HC0.out)
        (case side3 => repeat (first | exact (Kd.C_below HR1.out HB.out) | (with_reducible refine Kd.C_alloc ?_ _) | (with_reducible refine Kd.C_drewN ?_ _) | (with_reducible refine Kd.C_drew ?_)))
        (case side4 => exact HC1.out)
        rintro e w41 ⟨rfl, hb⟩
        refine ⟨_, rfl, ?_⟩
        have n0_ := Aside0.mk (Kd.S_below (by (with_reducible repeat (first | apply Kd.S_alloc | apply Kd.S_drewN | apply Kd.S_drew)); exact HO391.out) hb)
        have n1_ := Aside0.mk (Kd.S_below (by (with_reducible repeat (first | apply Kd.S_alloc | apply Kd.S_drewN | apply Kd.S_drew)); exact HO394.out) hb)
        have n2_ := Aside0.mk (Kd.V_below (by (with_reducible repeat (first | apply Kd.V_alloc | apply Kd.V_drewN | apply Kd.V_drew)); exact HO399.out) hb)
        have n3_ := Aside0.mk (Kd.S_below (by (with_reducible repeat (first | apply Kd.S_alloc | apply Kd.S_drewN | apply Kd.S_drew)); exact HO402.out) hb)
        have n4_ := Aside0.mk (blk_below (g := gb396) (o := .cells #[.slice Ao17 t389.length co17, .slice Ao19 t392.length co19] 45 (0, 0)) (by (with_reducible repeat (first | refine blk_drewN ?_ _ | refine blk_drew ?_ | refine blk_alloc ?_ _)); exact BK396.out) hb)
        have n5_ := Aside0.mk (blk_below (g := gb404) (o := .cells #[.slice Ao23 t397.length co23, .slice Ao26 t400.length co26] 45 (0, 0)) (by (with_reducible repeat (first | refine blk_drewN ?_ _ | refine blk_drew ?_ | refine blk_alloc ?_ _)); exact BK404.out) hb)
        have n6_ := Aside0.mk (blk_below (g := gb405) (o := .cells #[.slice A0 l0.length c0, .slice A1 l1.length c1] 45 (0, 0)) (by (with_reducible repeat (first | refine blk_drewN ?_ _ | refine blk_drew ?_ | refine blk_alloc ?_ _)); exact BK405.out) hb)
        have n7_ := Aside0.mk (below_step (B1_) hb)
        clear HO391
        clear HO394
        clear HO399
        clear HO402
        clear BK396
        clear BK404
        clear BK405
        clear HB
        have HO391 := n0_
        have HO394 := n1_
        have HO399 := n2_
        have HO402 := n3_
        have BK396 := n4_
        have BK404 := n5_
        have BK405 := n6_
        have HB := n7_
        clear n0_ n1_ n2_ n3_ n4_ n5_ n6_ n7_
        (try clear hb)
        (try clear hb2)
        (try clear hk)
        (try clear hi)
        refine hK.out _ _ ⟨(blk_cell BK396.out 0).trans rfl, (blk_cell BK396.out 1).trans rfl, (blk_cell BK404.out 0).trans rfl, (blk_cell BK404.out 1).trans rfl, (blk_cell BK405.out 0).trans rfl, (blk_cell BK405.out 1).trans rfl⟩ (fun hHeld => ?_)
        clear hK K
        refine norm_ (a' := ?_) ?_ ?_
        rotate_left
        ·show Act.put _ (some 49) _ = _
         simp only [Act.put, List.setIfInBounds_toArray, List.set_cons_zero, List.set_cons_succ, i64_w, i32_w]
         rfl
        refine pure_ (i := 14) (N := some 50) (v := ?_) (a' := ?_) #[T_,T_,T_,T_,T_,T_,T_,T_,T_,T_,T_,T_,T_,T_,T_,F_,F_,F_,F_,F_,F_,F_,F_,F_,F_,F_] rfl rfl (any_of HT_.out (by kernel_rfl)) (fun _ _ _ h => h) (Or.inl ⟨by rfl, ?_⟩) ?_ ?_
        rotate_left
        ·intro w'
         go_simp
         with_reducible rfl
        rotate_left
        ·simp only [Act.put, List.setIfInBounds_toArray, List.set_cons_zero, List.set_cons_succ, i64_w, i32_w]
         rfl
        refine pure_ (i := 15) (N := some 51) (v := ?_) (a' := ?_) #[T_,T_,T_,T_,T_,T_,T_,T_,T_,T_,T_,T_,T_,T_,T_,T_,F_,F_,F_,F_,F_,F_,F_,F_,F_,F_] rfl rfl (any_of HT_.out (by kernel_rfl)) (fun _ _ _ h => h) (Or.inl ⟨by rfl, ?_⟩) ?_ ?_
        rotate_left
        ·intro w'
         go_simp
         with_reducible rfl
        rotate_left
        ·simp only [Act.put, List.setIfInBounds_toArray, List.set_cons_zero, List.set_cons_succ, i64_w, i32_w]
         rfl
        refine pure_ (i := 16) (N := some 52) (v := ?_) (a' := ?_) #[T_,T_,T_,T_,T_,T_,T_,T_,T_,T_,T_,T_,T_,T_,T_,T_,T_,F_,F_,F_,F_,F_,F_,F_,F_,F_] rfl rfl (any_of HT_.out (by kernel_rfl)) (fun _ _ _ h => h) (Or.inl ⟨by rfl, ?_⟩) ?_ ?_
        rotate_left
        ·intro w'
         go_simp
         with_reducible rfl
        rotate_left
        ·simp only [Act.put, List.setIfInBounds_toArray, List.set_cons_zero, List.set_cons_succ, i64_w, i32_w]
         rfl
        refine pure_ (i := 17) (N := some 53) (v := undef) (a' := ?_) #[T_,T_,T_,T_,T_,T_,T_,T_,T_,T_,T_,T_,T_,T_,T_,T_,T_,T_,F_,F_,F_,F_,F_,F_,F_,F_] rfl rfl (any_of HT_.out (by kernel_rfl)) (fun _ _ _ h => h) (Or.inr ⟨by rfl, rfl⟩) ?_ ?_
        rotate_left
        ·simp only [Act.put, List.setIfInBounds_toArray, List.set_cons_zero, List.set_cons_succ, i64_w, i32_w]
         rfl
        refine pure_ (i := 18) (N := some 54) (v := undef) (a' := ?_) #[T_,T_,T_,T_,T_,T_,T_,T_,T_,T_,T_,T_,T_,T_,T_,T_,T_,T_,T_,F_,F_,F_,F_,F_,F_,F_] rfl rfl (any_of HT_.out (by kernel_rfl)) (fun _ _ _ h => h) (Or.inr ⟨by rfl, rfl⟩) ?_ ?_
        rotate_left
        ·simp only [Act.put, List.setIfInBounds_toArray, List.set_cons_zero, List.set_cons_succ, i64_w, i32_w]
         rfl
        refine pure_ (i := 19) (N := some 55) (v := undef) (a' := ?_) #[T_,T_,T_,T_,T_,T_,T_,T_,T_,T_,T_,T_,T_,T_,T_,T_,T_,T_,T_,T_,F_,F_,F_,F_,F_,F_] rfl rfl (any_of HT_.out (by kernel_rfl)) (fun _ _ _ h => h) (Or.inr ⟨by rfl, rfl⟩) ?_ ?_
        rotate_left
        ·simp only [Act.put, List.setIfInBounds_toArray, List.set_cons_zero, List.set_cons_succ, i64_w, i32_w]
         rfl
        refine pure_ (i := 20) (N := some 56) (v := undef) (a' := ?_) #[T_,T_,T_,T_,T_,T_,T_,T_,T_,T_,T_,T_,T_,T_,T_,T_,T_,T_,T_,T_,T_,F_,F_,F_,F_,F_] rfl rfl (any_of HT_.out (by kernel_rfl)) (fun _ _ _ h => h) (Or.inr ⟨by rfl, rfl⟩) ?_ ?_
        rotate_left
        ·simp only [Act.put, List.setIfInBounds_toArray, List.set_cons_zero, List.set_cons_succ, i64_w, i32_w]
         rfl
        refine pure_ (i := 21) (N := some 57) (v := undef) (a' := ?_) #[T_,T_,T_,T_,T_,T_,T_,T_,T_,T_,T_,T_,T_,T_,T_,T_,T_,T_,T_,T_,T_,T_,F_,F_,F_,F_] rfl rfl (any_of HT_.out (by kernel_rfl)) (fun _ _ _ h => h) (Or.inr ⟨by rfl, rfl⟩) ?_ ?_
        rotate_left
        ·simp only [Act.put, List.setIfInBounds_toArray, List.set_cons_zero, List.set_cons_succ, i64_w, i32_w]
         rfl
        refine pure_ (i := 22) (N := some 58) (v := undef) (a' := ?_) #[T_,T_,T_,T_,T_,T_,T_,T_,T_,T_,T_,T_,T_,T_,T_,T_,T_,T_,T_,T_,T_,T_,T_,F_,F_,F_] rfl rfl (any_of HT_.out (by kernel_rfl)) (fun _ _ _ h => h) (Or.inr ⟨by rfl, rfl⟩) ?_ ?_
        rotate_left
        ·simp only [Act.put, List.setIfInBounds_toArray, List.set_cons_zero, List.set_cons_succ, i64_w, i32_w]
         rfl
        refine pure_ (i := 23) (N := some 59) (v := undef) (a' := ?_) #[T_,T_,T_,T_,T_,T_,T_,T_,T_,T_,T_,T_,T_,T_,T_,T_,T_,T_,T_,T_,T_,T_,T_,T_,F_,F_] rfl rfl (any_of HT_.out (by kernel_rfl)) (fun _ _ _ h => h) (Or.inr ⟨by rfl, rfl⟩) ?_ ?_
        rotate_left
        ·simp only [Act.put, List.setIfInBounds_toArray, List.set_cons_zero, List.set_cons_succ, i64_w, i32_w]
         rfl
        refine pure_ (i := 24) (N := some 60) (v := undef) (a' := ?_) #[T_,T_,T_,T_,T_,T_,T_,T_,T_,T_,T_,T_,T_,T_,T_,T_,T_,T_,T_,T_,T_,T_,T_,T_,T_,F_] rfl rfl (any_of HT_.out (by kernel_rfl)) (fun _ _ _ h => h) (Or.inr ⟨by rfl, rfl⟩) ?_ ?_
        rotate_left
        ·simp only [Act.put, List.setIfInBounds_toArray, List.set_cons_zero, List.set_cons_succ, i64_w, i32_w]
         rfl
        refine pure_ (i := 25) (N := some 61) (v := ?_) (a' := ?_) #[T_,T_,T_,T_,T_,T_,T_,T_,T_,T_,T_,T_,T_,T_,T_,T_,T_,T_,T_,T_,T_,T_,T_,T_,T_,T_] rfl rfl (any_of HT_.out (by kernel_rfl)) (fun _ _ _ h => h) (Or.inl ⟨by rfl, ?_⟩) ?_ ?_
        rotate_left
        ·intro w'
         go_simp
         with_reducible rfl
        rotate_left
        ·simp only [Act.put, List.setIfInBounds_toArray, List.set_cons_zero, List.set_cons_succ, i64_w, i32_w]
         rfl
        refine done_ (done_of HT_.out (by kernel_rfl)) ?_
        try go_wp2
        go_meet
        case rel => exact ⟨_, (true), (by first | rfl | exact congrArg (fun b => Ending.returned (Value.bool b)) HR_.out | (simp; done) | (simp [*]; done)), H', ⟨by have := HJ5.out; first | omega | exact Nat.le_refl _⟩, ⟨by (with_reducible repeat (first | apply Kd.S_alloc | apply Kd.S_drewN | apply Kd.S_drew)); first | exact HO391.out | exact Kd.R_mono HO391.out (fun _ hk e_ => hk (e_.trans own_len))⟩, ⟨by (with_reducible repeat (first | apply Kd.S_alloc | apply Kd.S_drewN | apply Kd.S_drew)); first | exact HO394.out | exact Kd.R_mono HO394.out (fun _ hk e_ => hk (e_.trans own_len))⟩, ⟨by (with_reducible repeat (first | apply Kd.V_alloc | apply Kd.V_drewN | apply Kd.V_drew)); first | exact HO399.out | exact Kd.R_mono HO399.out (fun _ hk e_ => hk (e_.trans own_len))⟩, ⟨by (with_reducible repeat (first | apply Kd.S_alloc | apply Kd.S_drewN | apply Kd.S_drew)); first | exact HO402.out | exact Kd.R_mono HO402.out (fun _ hk e_ => hk (e_.trans own_len))⟩, ⟨by (with_reducible repeat (first | refine blk_drewN ?_ _ | refine blk_drew ?_ | refine blk_alloc ?_ _)); exact BK396.out⟩, ⟨by (with_reducible repeat (first | refine blk_drewN ?_ _ | refine blk_drew ?_ | refine blk_alloc ?_ _)); exact BK404.out⟩, ⟨by (with_reducible repeat (first | refine blk_drewN ?_ _ | refine blk_drew ?_ | refine blk_alloc ?_ _)); exact BK405.out⟩, ⟨B1_⟩⟩
       rw [if_neg c36] at H
       have c36b0 : (t407 != t408) = false := by simpa using c36
       (try (have c36b1 : decide (t407 = t408) = true := by simpa using c36))
       (try (have c36b2 : (t407 == t408) = true := by simpa using c36))
       clear c36
       replace H := Option.bind_eq_some_iff.mp H
       obtain ⟨t409, A420, H⟩ := H
       replace H : ((lockstepref06_Order.f kj5 l0 l1 a2).bind fun t412 => ((lockstepref02_Ints.f kj5 t409 t412).bind fun t415 => (locksteplaw06_GraphOrders.j1 kj5 a2 t395 (!t415) t389 t392 t397 t400))) = some true := H
       have A42 := Aside0.mk A420
       clear A420
       replace H := Option.bind_eq_some_iff.mp H
       obtain ⟨t412, A430, H⟩ := H
       replace H : ((lockstepref02_Ints.f kj5 t409 t412).bind fun t415 => (locksteplaw06_GraphOrders.j1 kj5 a2 t395 (!t415) t389 t392 t397 t400)) = some true := H
       have A43 := Aside0.mk A430
       clear A430
       replace H := Option.bind_eq_some_iff.mp H
       obtain ⟨t415, A440, H⟩ := H
       replace H : (locksteplaw06_GraphOrders.j1 kj5 a2 t395 (!t415) t389 t392 t397 t400) = some true := H
       have A44 := Aside0.mk A440
       clear A440
       have H' := Aside0.mk H
       clear H
       try go_wp2
       have n0_ : Aside0 (Kd.S (Kd.slice 3 (Kd.int .i64)) 33 ((w27.setCell ⟨gb405, 0, none⟩ (.slice A0 l0.length c0)).setCell ⟨gb405, 1, none⟩ (.slice A1 l1.length c1)) w.heap.size (fun k_ => some k_ ≠ (.slice Ao19 t392.length co19 : Value).ownBlock ∧ some k_ ≠ (.slice Ao26 t400.length co26 : Value).ownBlock) (.slice Ao17 t389.length co17) t389) := ⟨by (with_reducible repeat (first | apply Kd.S_alloc | apply Kd.S_drewN | apply Kd.S_drew)); exact Kd.S_mono (Kd.S_far (p := ⟨gb405, 1, none⟩) (Kd.S_far (p := ⟨gb405, 0, none⟩) (Kd.S_types HO391.out BK405.out (by decide)) (fun _ hk => hk.2) (.slice A0 l0.length c0)) (fun _ hk => hk.2) (.slice A1 l1.length c1)) (fun _ hk => ⟨hk.1.1, hk.1.2⟩)⟩
       have n1_ : Aside0 (Kd.S (Kd.slice 3 (Kd.int .i64)) 33 ((w27.setCell ⟨gb405, 0, none⟩ (.slice A0 l0.length c0)).setCell ⟨gb405, 1, none⟩ (.slice A1 l1.length c1)) w.heap.size (fun k_ => some k_ ≠ (.slice Ao17 t389.length co17 : Value).ownBlock ∧ some k_ ≠ (.slice Ao26 t400.length co26 : Value).ownBlock) (.slice Ao19 t392.length co19) t392) := ⟨by (with_reducible repeat (first | apply Kd.S_alloc | apply Kd.S_drewN | apply Kd.S_drew)); exact Kd.S_mono (Kd.S_far (p := ⟨gb405, 1, none⟩) (Kd.S_far (p := ⟨gb405, 0, none⟩) (Kd.S_types HO394.out BK405.out (by decide)) (fun _ hk => hk.2) (.slice A0 l0.length c0)) (fun _ hk => hk.2) (.slice A1 l1.length c1)) (fun _ hk => ⟨hk.1.1, hk.1.2⟩)⟩
       have n2_ : Aside0 (Kd.V (Kd.slice 3 (Kd.int .i64)) 33 ((w27.setCell ⟨gb405, 0, none⟩ (.slice A0 l0.length c0)).setCell ⟨gb405, 1, none⟩ (.slice A1 l1.length c1)) w.heap.size (fun k_ => some k_ ≠ (.slice Ao17 t389.length co17 : Value).ownBlock ∧ some k_ ≠ (.slice Ao19 t392.length co19 : Value).ownBlock ∧ some k_ ≠ (.slice Ao26 t400.length co26 : Value).ownBlock ∧ k_ ≠ gb396 ∧ k_ ≠ gb404 ∧ k_ ≠ gb405) (.slice Ao23 t397.length co23) t397) := ⟨by (with_reducible repeat (first | apply Kd.V_alloc | apply Kd.V_drewN | apply Kd.V_drew)); exact Kd.V_mono (Kd.V_far (p := ⟨gb405, 1, none⟩) (Kd.V_far (p := ⟨gb405, 0, none⟩) (Kd.V_mono HO399.out (fun k_ hk => (⟨hk, hk.2⟩ : _ ∧ k_ ≠ gb405))) (fun _ hk => hk.2) (.slice A0 l0.length c0)) (fun _ hk => hk.2) (.slice A1 l1.length c1)) (fun _ hk => ⟨hk.1.1.1.2.1, ⟨hk.1.1.1.2.2.1, ⟨hk.1.1.1.1, ⟨hk.1.1.1.2.2.2, ⟨hk.1.1.2, hk.1.2⟩⟩⟩⟩⟩)⟩
       have n3_ : Aside0 (Kd.S (Kd.slice 3 (Kd.int .i64)) 33 ((w27.setCell ⟨gb405, 0, none⟩ (.slice A0 l0.length c0)).setCell ⟨gb405, 1, none⟩ (.slice A1 l1.length c1)) w.heap.size (fun k_ => some k_ ≠ (.slice Ao17 t389.length co17 : Value).ownBlock ∧ some k_ ≠ (.slice Ao19 t392.length co19 : Value).ownBlock) (.slice Ao26 t400.length co26) t400) := ⟨by (with_reducible repeat (first | apply Kd.S_alloc | apply Kd.S_drewN | apply Kd.S_drew)); exact Kd.S_mono (Kd.S_far (p := ⟨gb405, 1, none⟩) (Kd.S_far (p := ⟨gb405, 0, none⟩) (Kd.S_types HO402.out BK405.out (by decide)) (fun _ hk => hk.2) (.slice A0 l0.length c0)) (fun _ hk => hk.2) (.slice A1 l1.length c1)) (fun _ hk => ⟨hk.1.1.2, hk.1.2⟩)⟩
       have n4_ : Aside0 (((w27.setCell ⟨gb405, 0, none⟩ (.slice A0 l0.length c0)).setCell ⟨gb405, 1, none⟩ (.slice A1 l1.length c1)).heap[gb396]? = some (.cells #[.slice Ao17 t389.length co17, .slice Ao19 t392.length co19] 45 (0, 0))) := ⟨by (with_reducible repeat (first | refine blk_drewN ?_ _ | refine blk_drew ?_ | refine blk_alloc ?_ _)); refine blk_far ?_ NB396_405.out _; (with_reducible repeat (first | refine blk_drewN ?_ _ | refine blk_drew ?_ | refine blk_alloc ?_ _)); refine blk_far ?_ NB396_405.out _; (with_reducible repeat (first | refine blk_drewN ?_ _ | refine blk_drew ?_ | refine blk_alloc ?_ _)); exact BK396.out⟩
       have n5_ : Aside0 (((w27.setCell ⟨gb405, 0, none⟩ (.slice A0 l0.length c0)).setCell ⟨gb405, 1, none⟩ (.slice A1 l1.length c1)).heap[gb404]? = some (.cells #[.slice Ao23 t397.length co23, .slice Ao26 t400.length co26] 45 (0, 0))) := ⟨by (with_reducible repeat (first | refine blk_drewN ?_ _ | refine blk_drew ?_ | refine blk_alloc ?_ _)); refine blk_far ?_ NB404_405.out _; (with_reducible repeat (first | refine blk_drewN ?_ _ | refine blk_drew ?_ | refine blk_alloc ?_ _)); refine blk_far ?_ NB404_405.out _; (with_reducible repeat (first | refine blk_drewN ?_ _ | refine blk_drew ?_ | refine blk_alloc ?_ _)); exact BK404.out⟩
       have n6_ : Aside0 (((w27.setCell ⟨gb405, 0, none⟩ (.slice A0 l0.length c0)).setCell ⟨gb405, 1, none⟩ (.slice A1 l1.length c1)).heap[gb405]? = some (.cells #[.slice A0 l0.length c0, .slice A1 l1.length c1] 45 (0, 0))) := ⟨by (with_reducible repeat (first | refine blk_drewN ?_ _ | refine blk_drew ?_ | refine blk_alloc ?_ _)); refine blk_put (cs := #[.slice A0 l0.length c0, .slice none 0 0]) ?_ 1 _ rfl; (with_reducible repeat (first | refine blk_drewN ?_ _ | refine blk_drew ?_ | refine blk_alloc ?_ _)); refine blk_put (cs := #[.slice none 0 0, .slice none 0 0]) ?_ 0 _ rfl; (with_reducible repeat (first | refine blk_drewN ?_ _ | refine blk_drew ?_ | refine blk_alloc ?_ _)); exact BK405.out⟩
       have n7_ : Aside0 (Below w.heap.size w ((w27.setCell ⟨gb405, 0, none⟩ (.slice A0 l0.length c0)).setCell ⟨gb405, 1, none⟩ (.slice A1 l1.length c1))) := ⟨B1_⟩
       (try clear HO391)
       (try clear HO394)
       (try clear HO399)
       (try clear HO402)
       (try clear BK396)
       (try clear BK404)
       (try clear BK405)
       (try clear HB)
       generalize ((w27.setCell ⟨gb405, 0, none⟩ (.slice A0 l0.length c0)).setCell ⟨gb405, 1, none⟩ (.slice A1 l1.length c1)) = w45 at n0_ n1_ n2_ n3_ n4_ n5_ n6_ n7_ ⊢
       have HO391 := n0_
       have HO394 := n1_
       have HO399 := n2_
       have HO402 := n3_
       have BK396 := n4_
       have BK404 := n5_
       have BK405 := n6_
       have HB := n7_
       clear n0_ n1_ n2_ n3_ n4_ n5_ n6_ n7_
       have n0_ := Aside0.mk (Kd.S_drew HO391.out)
       have n1_ := Aside0.mk (Kd.S_drew HO394.out)
       have n2_ := Aside0.mk (Kd.V_drew HO399.out)
       have n3_ := Aside0.mk (Kd.S_drew HO402.out)
       have n4_ := Aside0.mk (blk_drew BK396.out)
       have n5_ := Aside0.mk (blk_drew BK404.out)
       have n6_ := Aside0.mk (blk_drew BK405.out)
       have n7_ := Aside0.mk (below_drew1 HB.out)
       clear HO391
       clear HO394
       clear HO399
       clear HO402
       clear BK396
       clear BK404
       clear BK405
       clear HB
       have HO391 := n0_
       have HO394 := n1_
       have HO399 := n2_
       have HO402 := n3_
       have BK396 := n4_
       have BK404 := n5_
       have BK405 := n6_
       have HB := n7_
       clear n0_ n1_ n2_ n3_ n4_ n5_ n6_ n7_
       refine start_ (n := 26) (S := fun w' => w'.cell? ⟨gb396, 0, none⟩ = some (.slice Ao17 t389.length co17) ∧ w'.cell? ⟨gb396, 1, none⟩ = some (.slice Ao19 t392.length co19) ∧ w'.cell? ⟨gb404, 0, none⟩ = some (.slice Ao23 t397.length co23) ∧ w'.cell? ⟨gb404, 1, none⟩ = some (.slice Ao26 t400.length co26) ∧ w'.cell? ⟨gb405, 0, none⟩ = some (.slice A0 l0.length c0) ∧ w'.cell? ⟨gb405, 1, none⟩ = some (.slice A1 l1.length c1)) (ds := []) #[F_,F_,F_,F_,F_,F_,F_,F_,F_,F_,F_,F_,F_,F_,F_,F_,F_,F_,F_,F_,F_,F_,F_,F_,F_,F_] (by kernel_rfl) rfl rfl ⟨(blk_cell BK396.out 0).trans rfl, (blk_cell BK396.out 1).trans rfl, (blk_cell BK404.out 0).trans rfl, (blk_cell BK404.out 1).trans rfl, (blk_cell BK405.out 0).trans rfl, (blk_cell BK405.out 1).trans rfl⟩ (fun hHeld => ?_); refine with_tabW locksteplaw06_GraphOrders.tab8 locksteplaw06_GraphOrders.bits8 (fun HT_ HW_ => ?_)
       generalize w45.drew = w46 at HO391 HO394 HO399 HO402 BK396 BK404 BK405 HB hHeld ⊢
       refine take_ (i := 0) (N := some 36) (v := ?_) (a' := ?_) #[T_,F_,F_,F_,F_,F_,F_,F_,F_,F_,F_,F_,F_,F_,F_,F_,F_,F_,F_,F_,F_,F_,F_,F_,F_,F_] rfl rfl (take_ofW HT_.out HW_.out (by kernel_rfl)) (fun _ _ _ h => h) (Or.inl ⟨by rfl, ?_⟩) hHeld ?_ ?_
       rotate_left
       ·rintro w' ⟨s0, s1, s2, s3, s4, s5⟩
        go_simp
        with_reducible rfl
       rotate_left
       ·simp only [Act.put, List.setIfInBounds_toArray, List.set_cons_zero, List.set_cons_succ, i64_w, i32_w]
        rfl
       refine take_ (i := 1) (N := some 37) (v := ?_) (a' := ?_) #[T_,T_,F_,F_,F_,F_,F_,F_,F_,F_,F_,F_,F_,F_,F_,F_,F_,F_,F_,F_,F_,F_,F_,F_,F_,F_] rfl rfl (take_ofW HT_.out HW_.out (by kernel_rfl)) (fun _ _ _ h => h) (Or.inl ⟨by rfl, ?_⟩) hHeld ?_ ?_
       rotate_left
       ·rintro w' ⟨s0, s1, s2, s3, s4, s5⟩
        go_simp
        with_reducible rfl
       rotate_left
       ·simp only [Act.put, List.setIfInBounds_toArray, List.set_cons_zero, List.set_cons_succ, i64_w, i32_w]
        rfl
       refine one_ (i := 2) (N := some 38) #[T_,T_,T_,F_,F_,F_,F_,F_,F_,F_,F_,F_,F_,F_,F_,F_,F_,F_,F_,F_,F_,F_,F_,F_,F_,F_] rfl rfl (one_of HT_.out (by kernel_rfl)) (by decide) (fun K hK => ?_)
       refine goes_ Try.func28 (by kernel_rfl) rfl #[.agg #[.slice Ao17 t389.length co17, .slice Ao19 t392.length co19], .agg #[.slice Ao23 t397.length co23, .slice Ao26 t400.length co26]] (by rfl) rfl rfl (by (try simp only [List.map_toArray, List.map_cons, List.map_nil]); first | done | rfl | (simp only [List.length_drop, List.length_take]; rfl)) ?_
       with_reducible refine (lockstepref06_Same.calls kj5 _ _ t389 _ _ t392 _ _ t397 _ _ t400 true _ ?side1 ?side2 ?side3 ?side4 ?side5 ?side6 ?side7 ?side8 A31.out).mono ?_
       (case side1 => repeat (first | exact (Kd.S_reads' HO391.out).2.2 | (with_reducible refine Kd.C_alloc ?_ _) | (with_reducible refine Kd.C_drewN ?_ _) | (with_reducible refine Kd.C_drew ?_)))
       (case side2 => exact (Kd.S_reads' HO391.out).2.1)
       (case side3 => repeat (first | exact (Kd.S_reads' HO394.out).2.2 | (with_reducible refine Kd.C_alloc ?_ _) | (with_reducible refine Kd.C_drewN ?_ _) | (with_reducible refine Kd.C_drew ?_)))
       (case side4 => exact (Kd.S_reads' HO394.out).2.1)
       (case side5 => repeat (first | exact (Kd.V_reads' HO399.out).2.2 | (with_reducible refine Kd.C_alloc ?_ _) | (with_reducible refine Kd.C_drewN ?_ _) | (with_reducible refine Kd.C_drew ?_)))
       (case side6 => exact (Kd.V_reads' HO399.out).2.1)
       (case side7 => repeat (first | exact (Kd.S_reads' HO402.out).2.2 | (with_reducible refine Kd.C_alloc ?_ _) | (with_reducible refine Kd.C_drewN ?_ _) | (with_reducible refine Kd.C_drew ?_)))
       (case side8 => exact (Kd.S_reads' HO402.out).2.1)
       rintro e w47 ⟨rfl, hb⟩
       refine ⟨_, rfl, ?_⟩
       have n0_ := Aside0.mk (Kd.S_below (by (with_reducible repeat (first | apply Kd.S_alloc | apply Kd.S_drewN | apply Kd.S_drew)); exact HO391.out) hb)
       have n1_ := Aside0.mk (Kd.S_below (by (with_reducible repeat (first | apply Kd.S_alloc | apply Kd.S_drewN | apply Kd.S_drew)); exact HO394.out) hb)
       have n2_ := Aside0.mk (Kd.V_below (by (with_reducible repeat (first | apply Kd.V_alloc | apply Kd.V_drewN | apply Kd.V_drew)); exact HO399.out) hb)
       have n3_ := Aside0.mk (Kd.S_below (by (with_reducible repeat (first | apply Kd.S_alloc | apply Kd.S_drewN | apply Kd.S_drew)); exact HO402.out) hb)
       have n4_ := Aside0.mk (blk_below (g := gb396) (o := .cells #[.slice Ao17 t389.length co17, .slice Ao19 t392.length co19] 45 (0, 0)) (by (with_reducible repeat (first | refine blk_drewN ?_ _ | refine blk_drew ?_ | refine blk_alloc ?_ _)); exact BK396.out) hb)
       have n5_ := Aside0.mk (blk_below (g := gb404) (o := .cells #[.slice Ao23 t397.length co23, .slice Ao26 t400.length co26] 45 (0, 0)) (by (with_reducible repeat (first | refine blk_drewN ?_ _ | refine blk_drew ?_ | refine blk_alloc ?_ _)); exact BK404.out) hb)
       have n6_ := Aside0.mk (blk_below (g := gb405) (o := .cells #[.slice A0 l0.length c0, .slice A1 l1.length c1] 45 (0, 0)) (by (with_reducible repeat (first | refine blk_drewN ?_ _ | refine blk_drew ?_ | refine blk_alloc ?_ _)); exact BK405.out) hb)
       have n7_ := Aside0.mk (below_step (B1_) hb)
       clear HO391
       clear HO394
       clear HO399
       clear HO402
       clear BK396
       clear BK404
       clear BK405
       clear HB
       have HO391 := n0_
       have HO394 := n1_
       have HO399 := n2_
       have HO402 := n3_
       have BK396 := n4_
       have BK404 := n5_
       have BK405 := n6_
       have HB := n7_
       clear n0_ n1_ n2_ n3_ n4_ n5_ n6_ n7_
       (try clear hb)
       (try clear hb2)
       (try clear hk)
       (try clear hi)
       refine hK.out _ _ ⟨(blk_cell BK396.out 0).trans rfl, (blk_cell BK396.out 1).trans rfl, (blk_cell BK404.out 0).trans rfl, (blk_cell BK404.out 1).trans rfl, (blk_cell BK405.out 0).trans rfl, (blk_cell BK405.out 1).trans rfl⟩ (fun hHeld => ?_)
       clear hK K
       refine norm_ (a' := ?_) ?_ ?_
       rotate_left
       ·show Act.put _ (some 38) _ = _
        simp only [Act.put, List.setIfInBounds_toArray, List.set_cons_zero, List.set_cons_succ, i64_w, i32_w]
        rfl
       refine pure_ (i := 3) (N := some 39) (v := ?_) (a' := ?_) #[T_,T_,T_,T_,F_,F_,F_,F_,F_,F_,F_,F_,F_,F_,F_,F_,F_,F_,F_,F_,F_,F_,F_,F_,F_,F_] rfl rfl (any_of HT_.out (by kernel_rfl)) (fun _ _ _ h => h) (Or.inl ⟨by rfl, ?_⟩) ?_ ?_
       rotate_left
       ·intro w'
        go_simp
        with_reducible rfl
       rotate_left
       ·simp only [Act.put, List.setIfInBounds_toArray, List.set_cons_zero, List.set_cons_succ, i64_w, i32_w]
        rfl
       refine pure_ (i := 4) (N := some 40) (v := ?_) (a' := ?_) #[T_,T_,T_,T_,T_,F_,F_,F_,F_,F_,F_,F_,F_,F_,F_,F_,F_,F_,F_,F_,F_,F_,F_,F_,F_,F_] rfl rfl (any_of HT_.out (by kernel_rfl)) (fun _ _ _ h => h) (Or.inl ⟨by rfl, ?_⟩) ?_ ?_
       rotate_left
       ·intro w'
        go_simp
        with_reducible rfl
       rotate_left
       ·simp only [Act.put, List.setIfInBounds_toArray, List.set_cons_zero, List.set_cons_succ, i64_w, i32_w]
        rfl
       refine pure_ (i := 5) (N := some 41) (v := ?_) (a' := ?_) #[T_,T_,T_,T_,T_,T_,F_,F_,F_,F_,F_,F_,F_,F_,F_,F_,F_,F_,F_,F_,F_,F_,F_,F_,F_,F_] rfl rfl (any_of HT_.out (by kernel_rfl)) (fun _ _ _ h => h) (Or.inl ⟨by rfl, ?_⟩) ?_ ?_
       rotate_left
       ·intro w'
        go_simp
        with_reducible rfl
       rotate_left
       ·simp only [Act.put, List.setIfInBounds_toArray, List.set_cons_zero, List.set_cons_succ, i64_w, i32_w]
        rfl
       refine pure_ (i := 6) (N := some 42) (v := ?_) (a' := ?_) #[T_,T_,T_,T_,T_,T_,T_,F_,F_,F_,F_,F_,F_,F_,F_,F_,F_,F_,F_,F_,F_,F_,F_,F_,F_,F_] rfl rfl (any_of HT_.out (by kernel_rfl)) (fun _ _ _ h => h) (Or.inl ⟨by rfl, ?_⟩) ?_ ?_
       rotate_left
       ·intro w'
        go_simp
        with_reducible rfl
       rotate_left
       ·simp only [Act.put, List.setIfInBounds_toArray, List.set_cons_zero, List.set_cons_succ, i64_w, i32_w]
        rfl
       refine pure_ (i := 7) (N := some 43) (v := ?_) (a' := ?_) #[T_,T_,T_,T_,T_,T_,T_,T_,F_,F_,F_,F_,F_,F_,F_,F_,F_,F_,F_,F_,F_,F_,F_,F_,F_,F_] rfl rfl (any_of HT_.out (by kernel_rfl)) (fun _ _ _ h => h) (Or.inl ⟨by rfl, ?_⟩) ?_ ?_
       rotate_left
       ·intro w'
        go_simp
        with_reducible rfl
       rotate_left
       ·simp only [Act.put, List.setIfInBounds_toArray, List.set_cons_zero, List.set_cons_succ, i64_w, i32_w]
        rfl
       refine pure_ (i := 8) (N := some 44) (v := ?_) (a' := ?_) #[T_,T_,T_,T_,T_,T_,T_,T_,T_,F_,F_,F_,F_,F_,F_,F_,F_,F_,F_,F_,F_,F_,F_,F_,F_,F_] rfl rfl (any_of HT_.out (by kernel_rfl)) (fun _ _ _ h => h) (Or.inl ⟨by rfl, ?_⟩) ?_ ?_
       rotate_left
       ·intro w'
        go_simp
        with_reducible rfl
       rotate_left
       ·simp only [Act.put, List.setIfInBounds_toArray, List.set_cons_zero, List.set_cons_succ, i64_w, i32_w]
        rfl
       refine pure_ (i := 9) (N := some 45) (v := ?_) (a' := ?_) #[T_,T_,T_,T_,T_,T_,T_,T_,T_,T_,F_,F_,F_,F_,F_,F_,F_,F_,F_,F_,F_,F_,F_,F_,F_,F_] rfl rfl (any_of HT_.out (by kernel_rfl)) (fun _ _ _ h => h) (Or.inl ⟨by rfl, ?_⟩) ?_ ?_
       rotate_left
       ·intro w'
        go_simp
        with_reducible rfl
       rotate_left
       ·simp only [Act.put, List.setIfInBounds_toArray, List.set_cons_zero, List.set_cons_succ, i64_w, i32_w]
        rfl
       refine take_ (i := 10) (N := some 46) (v := ?_) (a' := ?_) #[T_,T_,T_,T_,T_,T_,T_,T_,T_,T_,T_,F_,F_,F_,F_,F_,F_,F_,F_,F_,F_,F_,F_,F_,F_,F_] rfl rfl (take_ofW HT_.out HW_.out (by kernel_rfl)) (fun _ _ _ h => h) (Or.inl ⟨by rfl, ?_⟩) hHeld ?_ ?_
       rotate_left
       ·rintro w' ⟨s0, s1, s2, s3, s4, s5⟩
        go_simp
        with_reducible rfl
       rotate_left
       ·simp only [Act.put, List.setIfInBounds_toArray, List.set_cons_zero, List.set_cons_succ, i64_w, i32_w]
        rfl
       refine take_ (i := 12) (N := some 48) (v := ?_) (a' := ?_) #[T_,T_,T_,T_,T_,T_,T_,T_,T_,T_,T_,F_,T_,F_,F_,F_,F_,F_,F_,F_,F_,F_,F_,F_,F_,F_] rfl rfl (take_ofW HT_.out HW_.out (by kernel_rfl)) (fun _ _ _ h => h) (Or.inl ⟨by rfl, ?_⟩) hHeld ?_ ?_
       rotate_left
       ·rintro w' ⟨s0, s1, s2, s3, s4, s5⟩
        go_simp
        with_reducible rfl
       rotate_left
       ·simp only [Act.put, List.setIfInBounds_toArray, List.set_cons_zero, List.set_cons_succ, i64_w, i32_w]
        rfl
       refine one_ (i := 11) (N := some 47) #[T_,T_,T_,T_,T_,T_,T_,T_,T_,T_,T_,T_,T_,F_,F_,F_,F_,F_,F_,F_,F_,F_,F_,F_,F_,F_] rfl rfl (one_of HT_.out (by kernel_rfl)) (by decide) (fun K hK => ?_)
       refine goes_ Try.func29 (by kernel_rfl) rfl #[.agg #[.slice A0 l0.length c0, .slice A1 l1.length c1]] (by rfl) rfl rfl (by (try simp only [List.map_toArray, List.map_cons, List.map_nil]); first | done | rfl | (simp only [List.length_drop, List.length_take]; rfl)) ?_
       with_reducible refine (graph_May.calls kj5 _ _ l0 _ _ l1 t407 _ ?side1 ?side2 ?side3 ?side4 A34.out).mono ?_
       (case side1 => repeat (first | exact (Kd.C_below HR0.out HB.out) | (with_reducible refine Kd.C_alloc ?_ _) | (with_reducible refine Kd.C_drewN ?_ _) | (with_reducible refine Kd.C_drew ?_)))
       (case side2 => exact HC0.out)
       (case side3 => repeat (first | exact (Kd.C_below HR1.out HB.out) | (with_reducible refine Kd.C_alloc ?_ _) | (with_reducible refine Kd.C_drewN ?_ _) | (with_reducible refine Kd.C_drew ?_)))
       (case side4 => exact HC1.out)
       rintro e w48 ⟨rfl, hb⟩
       refine ⟨_, rfl, ?_⟩
       have n0_ := Aside0.mk (Kd.S_below (by (with_reducible repeat (first | apply Kd.S_alloc | apply Kd.S_drewN | apply Kd.S_drew)); exact HO391.out) hb)
       have n1_ := Aside0.mk (Kd.S_below (by (with_reducible repeat (first | apply Kd.S_alloc | apply Kd.S_drewN | apply Kd.S_drew)); exact HO394.out) hb)
       have n2_ := Aside0.mk (Kd.V_below (by (with_reducible repeat (first | apply Kd.V_alloc | apply Kd.V_drewN | apply Kd.V_drew)); exact HO399.out) hb)
       have n3_ := Aside0.mk (Kd.S_below (by (with_reducible repeat (first | apply Kd.S_alloc | apply Kd.S_drewN | apply Kd.S_drew)); exact HO402.out) hb)
       have n4_ := Aside0.mk (blk_below (g := gb396) (o := .cells #[.slice Ao17 t389.length co17, .slice Ao19 t392.length co19] 45 (0, 0)) (by (with_reducible repeat (first | refine blk_drewN ?_ _ | refine blk_drew ?_ | refine blk_alloc ?_ _)); exact BK396.out) hb)
       have n5_ := Aside0.mk (blk_below (g := gb404) (o := .cells #[.slice Ao23 t397.length co23, .slice Ao26 t400.length co26] 45 (0, 0)) (by (with_reducible repeat (first | refine blk_drewN ?_ _ | refine blk_drew ?_ | refine blk_alloc ?_ _)); exact BK404.out) hb)
       have n6_ := Aside0.mk (blk_below (g := gb405) (o := .cells #[.slice A0 l0.length c0, .slice A1 l1.length c1] 45 (0, 0)) (by (with_reducible repeat (first | refine blk_drewN ?_ _ | refine blk_drew ?_ | refine blk_alloc ?_ _)); exact BK405.out) hb)
       have n7_ := Aside0.mk (below_step (B1_) hb)
       clear HO391
       clear HO394
       clear HO399
       clear HO402
       clear BK396
       clear BK404
       clear BK405
       clear HB
       have HO391 := n0_
       have HO394 := n1_
       have HO399 := n2_
       have HO402 := n3_
       have BK396 := n4_
       have BK404 := n5_
       have BK405 := n6_
       have HB := n7_
       clear n0_ n1_ n2_ n3_ n4_ n5_ n6_ n7_
       (try clear hb)
       (try clear hb2)
       (try clear hk)
       (try clear hi)
       refine hK.out _ _ ⟨(blk_cell BK396.out 0).trans rfl, (blk_cell BK396.out 1).trans rfl, (blk_cell BK404.out 0).trans rfl, (blk_cell BK404.out 1).trans rfl, (blk_cell BK405.out 0).trans rfl, (blk_cell BK405.out 1).trans rfl⟩ (fun hHeld => ?_)
       clear hK K
       refine norm_ (a' := ?_) ?_ ?_
       rotate_left
       ·show Act.put _ (some 47) _ = _
        simp only [Act.put, List.setIfInBounds_toArray, List.set_cons_zero, List.set_cons_succ, i64_w, i32_w]
        rfl
       refine one_ (i := 13) (N := some 49) #[T_,T_,T_,T_,T_,T_,T_,T_,T_,T_,T_,T_,T_,T_,F_,F_,F_,F_,F_,F_,F_,F_,F_,F_,F_,F_] rfl rfl (one_of HT_.out (by kernel_rfl)) (by decide) (fun K hK => ?_)
       refine goes_ Try.func26 (by kernel_rfl) rfl #[.agg #[.slice A0 l0.length c0, .slice A1 l1.length c1]] (by rfl) rfl rfl (by (try simp only [List.map_toArray, List.map_cons, List.map_nil]); first | done | rfl | (simp only [List.length_drop, List.length_take]; rfl)) ?_
       with_reducible refine (lockstepref06_May.calls kj5 _ _ l0 _ _ l1 t408 _ ?side1 ?side2 ?side3 ?side4 A35.out).mono ?_
       (case side1 => repeat (first | exact (Kd.C_below HR0.out HB.out) | (with_reducible refine Kd.C_alloc ?_ _) | (with_reducible refine Kd.C_drewN ?_ _) | (with_reducible refine Kd.C_drew ?_)))
       (case side2 => exact HC0.out)
       (case side3 => repeat (first | exact (Kd.C_below HR1.out HB.out) | (with_reducible refine Kd.C_alloc ?_ _) | (with_reducible refine Kd.C_drewN ?_ _) | (with_reducible refine Kd.C_drew ?_)))
       (case side4 => exact HC1.out)
       rintro e w49 ⟨rfl, hb⟩
       refine ⟨_, rfl, ?_⟩
       have n0_ := Aside0.mk (Kd.S_below (by (with_reducible repeat (first | apply Kd.S_alloc | apply Kd.S_drewN | apply Kd.S_drew)); exact HO391.out) hb)
       have n1_ := Aside0.mk (Kd.S_below (by (with_reducible repeat (first | apply Kd.S_alloc | apply Kd.S_drewN | apply Kd.S_drew)); exact HO394.out) hb)
       have n2_ := Aside0.mk (Kd.V_below (by (with_reducible repeat (first | apply Kd.V_alloc | apply Kd.V_drewN | apply Kd.V_drew)); exact HO399.out) hb)
       have n3_ := Aside0.mk (Kd.S_below (by (with_reducible repeat (first | apply Kd.S_alloc | apply Kd.S_drewN | apply Kd.S_drew)); exact HO402.out) hb)
       have n4_ := Aside0.mk (blk_below (g := gb396) (o := .cells #[.slice Ao17 t389.length co17, .slice Ao19 t392.length co19] 45 (0, 0)) (by (with_reducible repeat (first | refine blk_drewN ?_ _ | refine blk_drew ?_ | refine blk_alloc ?_ _)); exact BK396.out) hb)
       have n5_ := Aside0.mk (blk_below (g := gb404) (o := .cells #[.slice Ao23 t397.length co23, .slice Ao26 t400.length co26] 45 (0, 0)) (by (with_reducible repeat (first | refine blk_drewN ?_ _ | refine blk_drew ?_ | refine blk_alloc ?_ _)); exact BK404.out) hb)
       have n6_ := Aside0.mk (blk_below (g := gb405) (o := .cells #[.slice A0 l0.length c0, .slice A1 l1.length c1] 45 (0, 0)) (by (with_reducible repeat (first | refine blk_drewN ?_ _ | refine blk_drew ?_ | refine blk_alloc ?_ _)); exact BK405.out) hb)
       have n7_ := Aside0.mk (below_step (B1_) hb)
       clear HO391
       clear HO394
       clear HO399
       clear HO402
       clear BK396
       clear BK404
       clear BK405
       clear HB
       have HO391 := n0_
       have HO394 := n1_
       have HO399 := n2_
       have HO402 := n3_
       have BK396 := n4_
       have BK404 := n5_
       have BK405 := n6_
       have HB := n7_
       clear n0_ n1_ n2_ n3_ n4_ n5_ n6_ n7_
       (try clear hb)
       (try clear hb2)
       (try clear hk)
       (try clear hi)
       refine hK.out _ _ ⟨(blk_cell BK396.out 0).trans rfl, (blk_cell BK396.out 1).trans rfl, (blk_cell BK404.out 0).trans rfl, (blk_cell BK404.out 1).trans rfl, (blk_cell BK405.out 0).trans rfl, (blk_cell BK405.out 1).trans rfl⟩ (fun hHeld => ?_)
       clear hK K
       refine norm_ (a' := ?_) ?_ ?_
       rotate_left
       ·show Act.put _ (some 49) _ = _
        simp only [Act.put, List.setIfInBounds_toArray, List.set_cons_zero, List.set_cons_succ, i64_w, i32_w]
        rfl
       refine pure_ (i := 14) (N := some 50) (v := ?_) (a' := ?_) #[T_,T_,T_,T_,T_,T_,T_,T_,T_,T_,T_,T_,T_,T_,T_,F_,F_,F_,F_,F_,F_,F_,F_,F_,F_,F_] rfl rfl (any_of HT_.out (by kernel_rfl)) (fun _ _ _ h => h) (Or.inl ⟨by rfl, ?_⟩) ?_ ?_
       rotate_left
       ·intro w'
        go_simp
        with_reducible rfl
       rotate_left
       ·simp only [Act.put, List.setIfInBounds_toArray, List.set_cons_zero, List.set_cons_succ, i64_w, i32_w]
        rfl
       refine pure_ (i := 15) (N := some 51) (v := ?_) (a' := ?_) #[T_,T_,T_,T_,T_,T_,T_,T_,T_,T_,T_,T_,T_,T_,T_,T_,F_,F_,F_,F_,F_,F_,F_,F_,F_,F_] rfl rfl (any_of HT_.out (by kernel_rfl)) (fun _ _ _ h => h) (Or.inl ⟨by rfl, ?_⟩) ?_ ?_
       rotate_left
       ·intro w'
        go_simp
        with_reducible rfl
       rotate_left
       ·simp only [Act.put, List.setIfInBounds_toArray, List.set_cons_zero, List.set_cons_succ, i64_w, i32_w]
        rfl
       refine pure_ (i := 16) (N := some 52) (v := ?_) (a' := ?_) #[T_,T_,T_,T_,T_,T_,T_,T_,T_,T_,T_,T_,T_,T_,T_,T_,T_,F_,F_,F_,F_,F_,F_,F_,F_,F_] rfl rfl (any_of HT_.out (by kernel_rfl)) (fun _ _ _ h => h) (Or.inl ⟨by rfl, ?_⟩) ?_ ?_
       rotate_left
       ·intro w'
        go_simp
        with_reducible rfl
       rotate_left
       ·simp only [Act.put, List.setIfInBounds_toArray, List.set_cons_zero, List.set_cons_succ, i64_w, i32_w]
        rfl
       refine pure_ (i := 18) (N := some 54) (v := ?_) (a' := ?_) #[T_,T_,T_,T_,T_,T_,T_,T_,T_,T_,T_,T_,T_,T_,T_,T_,T_,F_,T_,F_,F_,F_,F_,F_,F_,F_] rfl rfl (any_of HT_.out (by kernel_rfl)) (fun _ _ _ h => h) (Or.inl ⟨by rfl, ?_⟩) ?_ ?_
       rotate_left
       ·intro w'
        go_simp
        with_reducible rfl
       rotate_left
       ·simp only [Act.put, List.setIfInBounds_toArray, List.set_cons_zero, List.set_cons_succ, i64_w, i32_w]
        rfl
       refine pure_ (i := 21) (N := some 57) (v := ?_) (a' := ?_) #[T_,T_,T_,T_,T_,T_,T_,T_,T_,T_,T_,T_,T_,T_,T_,T_,T_,F_,T_,F_,F_,T_,F_,F_,F_,F_] rfl rfl (any_of HT_.out (by kernel_rfl)) (fun _ _ _ h => h) (Or.inl ⟨by rfl, ?_⟩) ?_ ?_
       rotate_left
       ·intro w'
        go_simp
        with_reducible rfl
       rotate_left
       ·simp only [Act.put, List.setIfInBounds_toArray, List.set_cons_zero, List.set_cons_succ, i64_w, i32_w]
        rfl
       refine take_ (i := 17) (N := some 53) (v := ?_) (a' := ?_) #[T_,T_,T_,T_,T_,T_,T_,T_,T_,T_,T_,T_,T_,T_,T_,T_,T_,T_,T_,F_,F_,T_,F_,F_,F_,F_] rfl rfl (take_ofW HT_.out HW_.out (by kernel_rfl)) (fun _ _ _ h => h) (Or.inl ⟨by rfl, ?_⟩) hHeld ?_ ?_
       rotate_left
       ·rintro w' ⟨s0, s1, s2, s3, s4, s5⟩
        go_simp
        with_reducible rfl
       rotate_left
       ·simp only [Act.put, List.setIfInBounds_toArray, List.set_cons_zero, List.set_cons_succ, i64_w, i32_w]
        rfl
       refine take_ (i := 20) (N := some 56) (v := ?_) (a' := ?_) #[T_,T_,T_,T_,T_,T_,T_,T_,T_,T_,T_,T_,T_,T_,T_,T_,T_,T_,T_,F_,T_,T_,F_,F_,F_,F_] rfl rfl (take_ofW HT_.out HW_.out (by kernel_rfl)) (fun _ _ _ h => h) (Or.inl ⟨by rfl, ?_⟩) hHeld ?_ ?_
       rotate_left
       ·rintro w' ⟨s0, s1, s2, s3, s4, s5⟩
        go_simp
        with_reducible rfl
       rotate_left
       ·simp only [Act.put, List.setIfInBounds_toArray, List.set_cons_zero, List.set_cons_succ, i64_w, i32_w]
        rfl
       refine one_ (i := 19) (N := some 55) #[T_,T_,T_,T_,T_,T_,T_,T_,T_,T_,T_,T_,T_,T_,T_,T_,T_,T_,T_,T_,T_,T_,F_,F_,F_,F_] rfl rfl (one_of HT_.out (by kernel_rfl)) (by decide) (fun K hK => ?_)
       refine goes_ Try.func24 (by kernel_rfl) rfl #[.agg #[.slice A0 l0.length c0, .slice A1 l1.length c1], .int .i64 a2] (by rfl) rfl rfl (by (try simp only [List.map_toArray, List.map_cons, List.map_nil]); first | done | rfl | (simp only [List.length_drop, List.length_take]; rfl)) ?_
       with_reducible refine (graph_Order.calls kj5 _ _ l0 _ _ l1 a2 t409 _ ?side1 ?side2 ?side3 ?side4 A42.out).mono ?_
       (case side1 => repeat (first | exact (Kd.C_below HR0.out HB.out) | (with_reducible refine Kd.C_alloc ?_ _) | (with_reducible refine Kd.C_drewN ?_ _) | (with_reducible refine Kd.C_drew ?_)))
       (case side2 => exact HC0.out)
       (case side3 => repeat (first | exact (Kd.C_below HR1.out HB.out) | (with_reducible refine Kd.C_alloc ?_ _) | (with_reducible refine Kd.C_drewN ?_ _) | (with_reducible refine Kd.C_drew ?_)))
       (case side4 => exact HC1.out)
       rintro e w50 ⟨v410, rfl, ho0, hb⟩
       refine ⟨_, rfl, ?_⟩
       have n0_ := Aside0.mk (Kd.S_elder' (by (with_reducible repeat (first | apply Kd.S_alloc | apply Kd.S_drewN | apply Kd.S_drew)); exact HO391.out) (Kd.R_base ho0) hb)
       have n1_ := Aside0.mk (Kd.S_elder' (by (with_reducible repeat (first | apply Kd.S_alloc | apply Kd.S_drewN | apply Kd.S_drew)); exact HO394.out) (Kd.R_base ho0) hb)
       have n2_ := Aside0.mk (Kd.V_elder' (by (with_reducible repeat (first | apply Kd.V_alloc | apply Kd.V_drewN | apply Kd.V_drew)); exact HO399.out) (Kd.R_base ho0) hb)
       have n3_ := Aside0.mk (Kd.S_elder' (by (with_reducible repeat (first | apply Kd.S_alloc | apply Kd.S_drewN | apply Kd.S_drew)); exact HO402.out) (Kd.R_base ho0) hb)
       have n4_ := Aside0.mk (Kd.R_lower ho0 (below_size (B1_)))
       have n5_ := Aside0.mk (blk_below (g := gb396) (o := .cells #[.slice Ao17 t389.length co17, .slice Ao19 t392.length co19] 45 (0, 0)) (by (with_reducible repeat (first | refine blk_drewN ?_ _ | refine blk_drew ?_ | refine blk_alloc ?_ _)); exact BK396.out) hb)
       have n6_ := Aside0.mk (blk_below (g := gb404) (o := .cells #[.slice Ao23 t397.length co23, .slice Ao26 t400.length co26] 45 (0, 0)) (by (with_reducible repeat (first | refine blk_drewN ?_ _ | refine blk_drew ?_ | refine blk_alloc ?_ _)); exact BK404.out) hb)
       have n7_ := Aside0.mk (blk_below (g := gb405) (o := .cells #[.slice A0 l0.length c0, .slice A1 l1.length c1] 45 (0, 0)) (by (with_reducible repeat (first | refine blk_drewN ?_ _ | refine blk_drew ?_ | refine blk_alloc ?_ _)); exact BK405.out) hb)
       have n8_ := Aside0.mk (below_step (B1_) hb)
       clear HO391
       clear HO394
       clear HO399
       clear HO402
       clear BK396
       clear BK404
       clear BK405
       clear HB
       have HO391 := n0_
       have HO394 := n1_
       have HO399 := n2_
       have HO402 := n3_
       have HO411 := n4_
       have BK396 := n5_
       have BK404 := n6_
       have BK405 := n7_
       have HB := n8_
       clear n0_ n1_ n2_ n3_ n4_ n5_ n6_ n7_ n8_
       (try clear hb)
       (try clear hb2)
       (try clear hk)
       (try clear hi)
       (try clear ho0)
       refine hK.out _ _ ⟨(blk_cell BK396.out 0).trans rfl, (blk_cell BK396.out 1).trans rfl, (blk_cell BK404.out 0).trans rfl, (blk_cell BK404.out 1).trans rfl, (blk_cell BK405.out 0).trans rfl, (blk_cell BK405.out 1).trans rfl⟩ (fun hHeld => ?_)
       clear hK K
       refine norm_ (a' := ?_) ?_ ?_
       rotate_left
       ·show Act.put _ (some 55) _ = _
        simp only [Act.put, List.setIfInBounds_toArray, List.set_cons_zero, List.set_cons_succ, i64_w, i32_w]
        rfl
       refine one_ (i := 22) (N := some 58) #[T_,T_,T_,T_,T_,T_,T_,T_,T_,T_,T_,T_,T_,T_,T_,T_,T_,T_,T_,T_,T_,T_,T_,F_,F_,F_] rfl rfl (one_of HT_.out (by kernel_rfl)) (by decide) (fun K hK => ?_)
       refine goes_ Try.func30 (by kernel_rfl) rfl #[.agg #[.slice A0 l0.length c0, .slice A1 l1.length c1], .int .i64 a2] (by rfl) rfl rfl (by (try simp only [List.map_toArray, List.map_cons, List.map_nil]); first | done | rfl | (simp only [List.length_drop, List.length_take]; rfl)) ?_
       with_reducible refine (lockstepref06_Order.calls kj5 _ _ l0 _ _ l1 a2 t412 _ ?side1 ?side2 ?side3 ?side4 A43.out).mono ?_
       (case side1 => repeat (first | exact (Kd.C_below HR0.out HB.out) | (with_reducible refine Kd.C_alloc ?_ _) | (with_reducible refine Kd.C_drewN ?_ _) | (with_reducible refine Kd.C_drew ?_)))
       (case side2 => exact HC0.out)
       (case side3 => repeat (first | exact (Kd.C_below HR1.out HB.out) | (with_reducible refine Kd.C_alloc ?_ _) | (with_reducible refine Kd.C_drewN ?_ _) | (with_reducible refine Kd.C_drew ?_)))
       (case side4 => exact HC1.out)
       rintro e w51 ⟨v413, rfl, ho0, hb⟩
       refine ⟨_, rfl, ?_⟩
       have n0_ := Aside0.mk (Kd.S_elder' (by (with_reducible repeat (first | apply Kd.S_alloc | apply Kd.S_drewN | apply Kd.S_drew)); exact HO391.out) (Kd.R_base ho0) hb)
       have n1_ := Aside0.mk (Kd.S_elder' (by (with_reducible repeat (first | apply Kd.S_alloc | apply Kd.S_drewN | apply Kd.S_drew)); exact HO394.out) (Kd.R_base ho0) hb)
       have n2_ := Aside0.mk (Kd.V_elder' (by (with_reducible repeat (first | apply Kd.V_alloc | apply Kd.V_drewN | apply Kd.V_drew)); exact HO399.out) (Kd.R_base ho0) hb)
       have n3_ := Aside0.mk (Kd.S_elder' (by (with_reducible repeat (first | apply Kd.S_alloc | apply Kd.S_drewN | apply Kd.S_drew)); exact HO402.out) (Kd.R_base ho0) hb)
       have n4_ := Aside0.mk (Kd.R_elder' (by (with_reducible repeat (first | apply Kd.R_alloc | apply Kd.R_drewN | apply Kd.R_drew)); exact HO411.out) (Kd.R_base ho0) hb)
       have n5_ := Aside0.mk (Kd.R_lower (Kd.R_new' ho0 (Kd.R_lt (by (with_reducible repeat (first | apply Kd.R_alloc | apply Kd.R_drewN | apply Kd.R_drew)); exact HO411.out))) (below_size (B1_)))
       have n6_ := Aside0.mk (blk_below (g := gb396) (o := .cells #[.slice Ao17 t389.length co17, .slice Ao19 t392.length co19] 45 (0, 0)) (by (with_reducible repeat (first | refine blk_drewN ?_ _ | refine blk_drew ?_ | refine blk_alloc ?_ _)); exact BK396.out) hb)
       have n7_ := Aside0.mk (blk_below (g := gb404) (o := .cells #[.slice Ao23 t397.length co23, .slice Ao26 t400.length co26] 45 (0, 0)) (by (with_reducible repeat (first | refine blk_drewN ?_ _ | refine blk_drew ?_ | refine blk_alloc ?_ _)); exact BK404.out) hb)
       have n8_ := Aside0.mk (blk_below (g := gb405) (o := .cells #[.slice A0 l0.length c0, .slice A1 l1.length c1] 45 (0, 0)) (by (with_reducible repeat (first | refine blk_drewN ?_ _ | refine blk_drew ?_ | refine blk_alloc ?_ _)); exact BK405.out) hb)
       have n9_ := Aside0.mk (below_step (B1_) hb)
       clear HO391
       clear HO394
       clear HO399
       clear HO402
       clear HO411
       clear BK396
       clear BK404
       clear BK405
       clear HB
       have HO391 := n0_
       have HO394 := n1_
       have HO399 := n2_
       have HO402 := n3_
       have HO411 := n4_
       have HO414 := n5_
       have BK396 := n6_
       have BK404 := n7_
       have BK405 := n8_
       have HB := n9_
       clear n0_ n1_ n2_ n3_ n4_ n5_ n6_ n7_ n8_ n9_
       (try clear hb)
       (try clear hb2)
       (try clear hk)
       (try clear hi)
       (try clear ho0)
       obtain ⟨Ao52, co52, eo52⟩ := Kd.R_slice HO411.out
       (first | subst eo52 | (injection eo52 with f1_ f2_ f3_; have f4_ := f1_.symm; have f5_ := f3_.symm; clear f1_ f2_ f3_; subst f4_; subst f5_))
       obtain ⟨Ao53, co53, eo53⟩ := Kd.R_slice HO414.out
       (first | subst eo53 | (injection eo53 with f1_ f2_ f3_; have f4_ := f1_.symm; have f5_ := f3_.symm; clear f1_ f2_ f3_; subst f4_; subst f5_))
       refine hK.out _ _ ⟨(blk_cell BK396.out 0).trans rfl, (blk_cell BK396.out 1).trans rfl, (blk_cell BK404.out 0).trans rfl, (blk_cell BK404.out 1).trans rfl, (blk_cell BK405.out 0).trans rfl, (blk_cell BK405.out 1).trans rfl⟩ (fun hHeld => ?_)
       clear hK K
       refine norm_ (a' := ?_) ?_ ?_
       rotate_left
       ·show Act.put _ (some 58) _ = _
        simp only [Act.put, List.setIfInBounds_toArray, List.set_cons_zero, List.set_cons_succ, i64_w, i32_w]
        rfl
       refine one_ (i := 23) (N := some 59) #[T_,T_,T_,T_,T_,T_,T_,T_,T_,T_,T_,T_,T_,T_,T_,T_,T_,T_,T_,T_,T_,T_,T_,T_,F_,F_] rfl rfl (one_of HT_.out (by kernel_rfl)) (by decide) (fun K hK => ?_)
       refine goes_ Try.func20 (by kernel_rfl) rfl #[.slice Ao52 t409.length co52, .slice Ao53 t412.length co53] (by rfl) rfl rfl (by (try simp only [List.map_toArray, List.map_cons, List.map_nil]); first | done | rfl | (simp only [List.length_drop, List.length_take]; rfl)) ?_
       with_reducible refine (lockstepref02_Ints.calls kj5 _ _ t409 _ _ t412 t415 _ ?side1 ?side2 ?side3 ?side4 A44.out).mono ?_
       (case side1 => repeat (first | exact (Kd.R_reads' HO411.out).2.2 | (with_reducible refine Kd.C_alloc ?_ _) | (with_reducible refine Kd.C_drewN ?_ _) | (with_reducible refine Kd.C_drew ?_)))
       (case side2 => exact (Kd.R_reads' HO411.out).2.1)
       (case side3 => repeat (first | exact (Kd.R_reads' HO414.out).2.2 | (with_reducible refine Kd.C_alloc ?_ _) | (with_reducible refine Kd.C_drewN ?_ _) | (with_reducible refine Kd.C_drew ?_)))
       (case side4 => exact (Kd.R_reads' HO414.out).2.1)
       rintro e w' ⟨rfl, ⟨nd, rfl⟩⟩
       refine ⟨_, rfl, ?_⟩
       refine hK.out _ _ ⟨(blk_cell BK396.out 0).trans rfl, (blk_cell BK396.out 1).trans rfl, (blk_cell BK404.out 0).trans rfl, (blk_cell BK404.out 1).trans rfl, (blk_cell BK405.out 0).trans rfl, (blk_cell BK405.out 1).trans rfl⟩ (fun hHeld => ?_)
       clear hK K
       refine norm_ (a' := ?_) ?_ ?_
       rotate_left
       ·show Act.put _ (some 59) _ = _
        simp only [Act.put, List.setIfInBounds_toArray, List.set_cons_zero, List.set_cons_succ, i64_w, i32_w]
        rfl
       refine pure_ (i := 24) (N := some 60) (v := ?_) (a' := ?_) #[T_,T_,T_,T_,T_,T_,T_,T_,T_,T_,T_,T_,T_,T_,T_,T_,T_,T_,T_,T_,T_,T_,T_,T_,T_,F_] rfl rfl (any_of HT_.out (by kernel_rfl)) (fun _ _ _ h => h) (Or.inl ⟨by rfl, ?_⟩) ?_ ?_
       rotate_left
       ·intro w'
        go_simp
        with_reducible rfl
       rotate_left
       ·simp only [Act.put, List.setIfInBounds_toArray, List.set_cons_zero, List.set_cons_succ, i64_w, i32_w]
        rfl
       refine pure_ (i := 25) (N := some 61) (v := ?_) (a' := ?_) #[T_,T_,T_,T_,T_,T_,T_,T_,T_,T_,T_,T_,T_,T_,T_,T_,T_,T_,T_,T_,T_,T_,T_,T_,T_,T_] rfl rfl (any_of HT_.out (by kernel_rfl)) (fun _ _ _ h => h) (Or.inl ⟨by rfl, ?_⟩) ?_ ?_
       rotate_left
       ·intro w'
        go_simp
        with_reducible rfl
       rotate_left
       ·simp only [Act.put, List.setIfInBounds_toArray, List.set_cons_zero, List.set_cons_succ, i64_w, i32_w]
        rfl
       refine done_ (done_of HT_.out (by kernel_rfl)) ?_
       try go_wp2
       go_meet
       case rel => exact ⟨_, (!t415), (by first | rfl | exact congrArg (fun b => Ending.returned (Value.bool b)) HR_.out | (simp; done) | (simp [*]; done)), H', ⟨by have := HJ5.out; first | omega | exact Nat.le_refl _⟩, ⟨by (with_reducible repeat (first | apply Kd.S_alloc | apply Kd.S_drewN | apply Kd.S_drew)); exact Kd.S_mono HO391.out (fun _ hk => ⟨hk.1.1.1, hk.1.1.2⟩)⟩, ⟨by (with_reducible repeat (first | apply Kd.S_alloc | apply Kd.S_drewN | apply Kd.S_drew)); exact Kd.S_mono HO394.out (fun _ hk => ⟨hk.1.1.1, hk.1.1.2⟩)⟩, ⟨by (with_reducible repeat (first | apply Kd.V_alloc | apply Kd.V_drewN | apply Kd.V_drew)); exact Kd.V_mono HO399.out (fun _ hk => ⟨hk.1.1.1, ⟨hk.1.1.2.1, ⟨hk.1.1.2.2.1, ⟨hk.1.1.2.2.2.1, ⟨hk.1.1.2.2.2.2.1, hk.1.1.2.2.2.2.2⟩⟩⟩⟩⟩)⟩, ⟨by (with_reducible repeat (first | apply Kd.S_alloc | apply Kd.S_drewN | apply Kd.S_drew)); exact Kd.S_mono HO402.out (fun _ hk => ⟨hk.1.1.1, hk.1.1.2⟩)⟩, ⟨by (with_reducible repeat (first | refine blk_drewN ?_ _ | refine blk_drew ?_ | refine blk_alloc ?_ _)); exact BK396.out⟩, ⟨by (with_reducible repeat (first | refine blk_drewN ?_ _ | refine blk_drew ?_ | refine blk_alloc ?_ _)); exact BK404.out⟩, ⟨by (with_reducible repeat (first | refine blk_drewN ?_ _ | refine blk_drew ?_ | refine blk_alloc ?_ _)); exact BK405.out⟩, ⟨B1_⟩⟩
      rw [if_neg c33] at H
      have c33b0 : (t395 == t403) = false := beq_eq_false_iff_ne.mpr c33
      have c33b1 : (t395 != t403) = true := bne_iff_ne.mpr c33
      (first | rw [c33b0] | (simp only [i64_w, i32_w]; rw [c33b0]) | skip)
      have H' := Aside0.mk H
      clear H
      try go_wp2
      have n0_ : Aside0 (Kd.S (Kd.slice 3 (Kd.int .i64)) 33 ((w27.setCell ⟨gb405, 0, none⟩ (.slice A0 l0.length c0)).setCell ⟨gb405, 1, none⟩ (.slice A1 l1.length c1)) w.heap.size (fun k_ => some k_ ≠ (.slice Ao19 t392.length co19 : Value).ownBlock ∧ some k_ ≠ (.slice Ao26 t400.length co26 : Value).ownBlock) (.slice Ao17 t389.length co17) t389) := ⟨by (with_reducible repeat (first | apply Kd.S_alloc | apply Kd.S_drewN | apply Kd.S_drew)); exact Kd.S_mono (Kd.S_far (p := ⟨gb405, 1, none⟩) (Kd.S_far (p := ⟨gb405, 0, none⟩) (Kd.S_types HO391.out BK405.out (by decide)) (fun _ hk => hk.2) (.slice A0 l0.length c0)) (fun _ hk => hk.2) (.slice A1 l1.length c1)) (fun _ hk => ⟨hk.1.1, hk.1.2⟩)⟩
      have n1_ : Aside0 (Kd.S (Kd.slice 3 (Kd.int .i64)) 33 ((w27.setCell ⟨gb405, 0, none⟩ (.slice A0 l0.length c0)).setCell ⟨gb405, 1, none⟩ (.slice A1 l1.length c1)) w.heap.size (fun k_ => some k_ ≠ (.slice Ao17 t389.length co17 : Value).ownBlock ∧ some k_ ≠ (.slice Ao26 t400.length co26 : Value).ownBlock) (.slice Ao19 t392.length co19) t392) := ⟨by (with_reducible repeat (first | apply Kd.S_alloc | apply Kd.S_drewN | apply Kd.S_drew)); exact Kd.S_mono (Kd.S_far (p := ⟨gb405, 1, none⟩) (Kd.S_far (p := ⟨gb405, 0, none⟩) (Kd.S_types HO394.out BK405.out (by decide)) (fun _ hk => hk.2) (.slice A0 l0.length c0)) (fun _ hk => hk.2) (.slice A1 l1.length c1)) (fun _ hk => ⟨hk.1.1, hk.1.2⟩)⟩
      have n2_ : Aside0 (Kd.V (Kd.slice 3 (Kd.int .i64)) 33 ((w27.setCell ⟨gb405, 0, none⟩ (.slice A0 l0.length c0)).setCell ⟨gb405, 1, none⟩ (.slice A1 l1.length c1)) w.heap.size (fun k_ => some k_ ≠ (.slice Ao17 t389.length co17 : Value).ownBlock ∧ some k_ ≠ (.slice Ao19 t392.length co19 : Value).ownBlock ∧ some k_ ≠ (.slice Ao26 t400.length co26 : Value).ownBlock ∧ k_ ≠ gb396 ∧ k_ ≠ gb404 ∧ k_ ≠ gb405) (.slice Ao23 t397.length co23) t397) := ⟨by (with_reducible repeat (first | apply Kd.V_alloc | apply Kd.V_drewN | apply Kd.V_drew)); exact Kd.V_mono (Kd.V_far (p := ⟨gb405, 1, none⟩) (Kd.V_far (p := ⟨gb405, 0, none⟩) (Kd.V_mono HO399.out (fun k_ hk => (⟨hk, hk.2⟩ : _ ∧ k_ ≠ gb405))) (fun _ hk => hk.2) (.slice A0 l0.length c0)) (fun _ hk => hk.2) (.slice A1 l1.length c1)) (fun _ hk => ⟨hk.1.1.1.2.1, ⟨hk.1.1.1.2.2.1, ⟨hk.1.1.1.1, ⟨hk.1.1.1.2.2.2, ⟨hk.1.1.2, hk.1.2⟩⟩⟩⟩⟩)⟩
      have n3_ : Aside0 (Kd.S (Kd.slice 3 (Kd.int .i64)) 33 ((w27.setCell ⟨gb405, 0, none⟩ (.slice A0 l0.length c0)).setCell ⟨gb405, 1, none⟩ (.slice A1 l1.length c1)) w.heap.size (fun k_ => some k_ ≠ (.slice Ao17 t389.length co17 : Value).ownBlock ∧ some k_ ≠ (.slice Ao19 t392.length co19 : Value).ownBlock) (.slice Ao26 t400.length co26) t400) := ⟨by (with_reducible repeat (first | apply Kd.S_alloc | apply Kd.S_drewN | apply Kd.S_drew)); exact Kd.S_mono (Kd.S_far (p := ⟨gb405, 1, none⟩) (Kd.S_far (p := ⟨gb405, 0, none⟩) (Kd.S_types HO402.out BK405.out (by decide)) (fun _ hk => hk.2) (.slice A0 l0.length c0)) (fun _ hk => hk.2) (.slice A1 l1.length c1)) (fun _ hk => ⟨hk.1.1.2, hk.1.2⟩)⟩
      have n4_ : Aside0 (((w27.setCell ⟨gb405, 0, none⟩ (.slice A0 l0.length c0)).setCell ⟨gb405, 1, none⟩ (.slice A1 l1.length c1)).heap[gb396]? = some (.cells #[.slice Ao17 t389.length co17, .slice Ao19 t392.length co19] 45 (0, 0))) := ⟨by (with_reducible repeat (first | refine blk_drewN ?_ _ | refine blk_drew ?_ | refine blk_alloc ?_ _)); refine blk_far ?_ NB396_405.out _; (with_reducible repeat (first | refine blk_drewN ?_ _ | refine blk_drew ?_ | refine blk_alloc ?_ _)); refine blk_far ?_ NB396_405.out _; (with_reducible repeat (first | refine blk_drewN ?_ _ | refine blk_drew ?_ | refine blk_alloc ?_ _)); exact BK396.out⟩
      have n5_ : Aside0 (((w27.setCell ⟨gb405, 0, none⟩ (.slice A0 l0.length c0)).setCell ⟨gb405, 1, none⟩ (.slice A1 l1.length c1)).heap[gb404]? = some (.cells #[.slice Ao23 t397.length co23, .slice Ao26 t400.length co26] 45 (0, 0))) := ⟨by (with_reducible repeat (first | refine blk_drewN ?_ _ | refine blk_drew ?_ | refine blk_alloc ?_ _)); refine blk_far ?_ NB404_405.out _; (with_reducible repeat (first | refine blk_drewN ?_ _ | refine blk_drew ?_ | refine blk_alloc ?_ _)); refine blk_far ?_ NB404_405.out _; (with_reducible repeat (first | refine blk_drewN ?_ _ | refine blk_drew ?_ | refine blk_alloc ?_ _)); exact BK404.out⟩
      have n6_ : Aside0 (((w27.setCell ⟨gb405, 0, none⟩ (.slice A0 l0.length c0)).setCell ⟨gb405, 1, none⟩ (.slice A1 l1.length c1)).heap[gb405]? = some (.cells #[.slice A0 l0.length c0, .slice A1 l1.length c1] 45 (0, 0))) := ⟨by (with_reducible repeat (first | refine blk_drewN ?_ _ | refine blk_drew ?_ | refine blk_alloc ?_ _)); refine blk_put (cs := #[.slice A0 l0.length c0, .slice none 0 0]) ?_ 1 _ rfl; (with_reducible repeat (first | refine blk_drewN ?_ _ | refine blk_drew ?_ | refine blk_alloc ?_ _)); refine blk_put (cs := #[.slice none 0 0, .slice none 0 0]) ?_ 0 _ rfl; (with_reducible repeat (first | refine blk_drewN ?_ _ | refine blk_drew ?_ | refine blk_alloc ?_ _)); exact BK405.out⟩
      have n7_ : Aside0 (Below w.heap.size w ((w27.setCell ⟨gb405, 0, none⟩ (.slice A0 l0.length c0)).setCell ⟨gb405, 1, none⟩ (.slice A1 l1.length c1))) := ⟨B1_⟩
      (try clear HO391)
      (try clear HO394)
      (try clear HO399)
      (try clear HO402)
      (try clear BK396)
      (try clear BK404)
      (try clear BK405)
      (try clear HB)
      generalize ((w27.setCell ⟨gb405, 0, none⟩ (.slice A0 l0.length c0)).setCell ⟨gb405, 1, none⟩ (.slice A1 l1.length c1)) = w54 at n0_ n1_ n2_ n3_ n4_ n5_ n6_ n7_ ⊢
      have HO391 := n0_
      have HO394 := n1_
      have HO399 := n2_
      have HO402 := n3_
      have BK396 := n4_
      have BK404 := n5_
      have BK405 := n6_
      have HB := n7_
      clear n0_ n1_ n2_ n3_ n4_ n5_ n6_ n7_
      have n0_ := Aside0.mk (Kd.S_drew HO391.out)
      have n1_ := Aside0.mk (Kd.S_drew HO394.out)
      have n2_ := Aside0.mk (Kd.V_drew HO399.out)
      have n3_ := Aside0.mk (Kd.S_drew HO402.out)
      have n4_ := Aside0.mk (blk_drew BK396.out)
      have n5_ := Aside0.mk (blk_drew BK404.out)
      have n6_ := Aside0.mk (blk_drew BK405.out)
      have n7_ := Aside0.mk (below_drew1 HB.out)
      clear HO391
      clear HO394
      clear HO399
      clear HO402
      clear BK396
      clear BK404
      clear BK405
      clear HB
      have HO391 := n0_
      have HO394 := n1_
      have HO399 := n2_
      have HO402 := n3_
      have BK396 := n4_
      have BK404 := n5_
      have BK405 := n6_
      have HB := n7_
      clear n0_ n1_ n2_ n3_ n4_ n5_ n6_ n7_
      refine start_ (n := 26) (S := fun w' => w'.cell? ⟨gb396, 0, none⟩ = some (.slice Ao17 t389.length co17) ∧ w'.cell? ⟨gb396, 1, none⟩ = some (.slice Ao19 t392.length co19) ∧ w'.cell? ⟨gb404, 0, none⟩ = some (.slice Ao23 t397.length co23) ∧ w'.cell? ⟨gb404, 1, none⟩ = some (.slice Ao26 t400.length co26)) (ds := []) #[F_,F_,F_,F_,F_,F_,F_,F_,F_,F_,F_,F_,F_,F_,F_,F_,F_,F_,F_,F_,F_,F_,F_,F_,F_,F_] (by kernel_rfl) rfl rfl ⟨(blk_cell BK396.out 0).trans rfl, (blk_cell BK396.out 1).trans rfl, (blk_cell BK404.out 0).trans rfl, (blk_cell BK404.out 1).trans rfl⟩ (fun hHeld => ?_); refine with_tabW locksteplaw06_GraphOrders.tab8 locksteplaw06_GraphOrders.bits8 (fun HT_ HW_ => ?_)
      generalize w54.drew = w55 at HO391 HO394 HO399 HO402 BK396 BK404 BK405 HB hHeld ⊢
      refine take_ (i := 0) (N := some 36) (v := ?_) (a' := ?_) #[T_,F_,F_,F_,F_,F_,F_,F_,F_,F_,F_,F_,F_,F_,F_,F_,F_,F_,F_,F_,F_,F_,F_,F_,F_,F_] rfl rfl (take_ofW HT_.out HW_.out (by kernel_rfl)) (fun _ _ _ h => h) (Or.inl ⟨by rfl, ?_⟩) hHeld ?_ ?_
      rotate_left
      ·rintro w' ⟨s0, s1, s2, s3⟩
       go_simp
       with_reducible rfl
      rotate_left
      ·simp only [Act.put, List.setIfInBounds_toArray, List.set_cons_zero, List.set_cons_succ, i64_w, i32_w]
       rfl
      refine take_ (i := 1) (N := some 37) (v := ?_) (a' := ?_) #[T_,T_,F_,F_,F_,F_,F_,F_,F_,F_,F_,F_,F_,F_,F_,F_,F_,F_,F_,F_,F_,F_,F_,F_,F_,F_] rfl rfl (take_ofW HT_.out HW_.out (by kernel_rfl)) (fun _ _ _ h => h) (Or.inl ⟨by rfl, ?_⟩) hHeld ?_ ?_
      rotate_left
      ·rintro w' ⟨s0, s1, s2, s3⟩
       go_simp
       with_reducible rfl
      rotate_left
      ·simp only [Act.put, List.setIfInBounds_toArray, List.set_cons_zero, List.set_cons_succ, i64_w, i32_w]
       rfl
      refine one_ (i := 2) (N := some 38) #[T_,T_,T_,F_,F_,F_,F_,F_,F_,F_,F_,F_,F_,F_,F_,F_,F_,F_,F_,F_,F_,F_,F_,F_,F_,F_] rfl rfl (one_of HT_.out (by kernel_rfl)) (by decide) (fun K hK => ?_)
      refine goes_ Try.func28 (by kernel_rfl) rfl #[.agg #[.slice Ao17 t389.length co17, .slice Ao19 t392.length co19], .agg #[.slice Ao23 t397.length co23, .slice Ao26 t400.length co26]] (by rfl) rfl rfl (by (try simp only [List.map_toArray, List.map_cons, List.map_nil]); first | done | rfl | (simp only [List.length_drop, List.length_take]; rfl)) ?_
      with_reducible refine (lockstepref06_Same.calls kj5 _ _ t389 _ _ t392 _ _ t397 _ _ t400 true _ ?side1 ?side2 ?side3 ?side4 ?side5 ?side6 ?side7 ?side8 A31.out).mono ?_
      (case side1 => repeat (first | exact (Kd.S_reads' HO391.out).2.2 | (with_reducible refine Kd.C_alloc ?_ _) | (with_reducible refine Kd.C_drewN ?_ _) | (with_reducible refine Kd.C_drew ?_)))
      (case side2 => exact (Kd.S_reads' HO391.out).2.1)
      (case side3 => repeat (first | exact (Kd.S_reads' HO394.out).2.2 | (with_reducible refine Kd.C_alloc ?_ _) | (with_reducible refine Kd.C_drewN ?_ _) | (with_reducible refine Kd.C_drew ?_)))
      (case side4 => exact (Kd.S_reads' HO394.out).2.1)
      (case side5 => repeat (first | exact (Kd.V_reads' HO399.out).2.2 | (with_reducible refine Kd.C_alloc ?_ _) | (with_reducible refine Kd.C_drewN ?_ _) | (with_reducible refine Kd.C_drew ?_)))
      (case side6 => exact (Kd.V_reads' HO399.out).2.1)
      (case side7 => repeat (first | exact (Kd.S_reads' HO402.out).2.2 | (with_reducible refine Kd.C_alloc ?_ _) | (with_reducible refine Kd.C_drewN ?_ _) | (with_reducible refine Kd.C_drew ?_)))
      (case side8 => exact (Kd.S_reads' HO402.out).2.1)
      rintro e w56 ⟨rfl, hb⟩
      refine ⟨_, rfl, ?_⟩
      have n0_ := Aside0.mk (Kd.S_below (by (with_reducible repeat (first | apply Kd.S_alloc | apply Kd.S_drewN | apply Kd.S_drew)); exact HO391.out) hb)
      have n1_ := Aside0.mk (Kd.S_below (by (with_reducible repeat (first | apply Kd.S_alloc | apply Kd.S_drewN | apply Kd.S_drew)); exact HO394.out) hb)
      have n2_ := Aside0.mk (Kd.V_below (by (with_reducible repeat (first | apply Kd.V_alloc | apply Kd.V_drewN | apply Kd.V_drew)); exact HO399.out) hb)
      have n3_ := Aside0.mk (Kd.S_below (by (with_reducible repeat (first | apply Kd.S_alloc | apply Kd.S_drewN | apply Kd.S_drew)); exact HO402.out) hb)
      have n4_ := Aside0.mk (blk_below (g := gb396) (o := .cells #[.slice Ao17 t389.length co17, .slice Ao19 t392.length co19] 45 (0, 0)) (by (with_reducible repeat (first | refine blk_drewN ?_ _ | refine blk_drew ?_ | refine blk_alloc ?_ _)); exact BK396.out) hb)
      have n5_ := Aside0.mk (blk_below (g := gb404) (o := .cells #[.slice Ao23 t397.length co23, .slice Ao26 t400.length co26] 45 (0, 0)) (by (with_reducible repeat (first | refine blk_drewN ?_ _ | refine blk_drew ?_ | refine blk_alloc ?_ _)); exact BK404.out) hb)
      have n6_ := Aside0.mk (blk_below (g := gb405) (o := .cells #[.slice A0 l0.length c0, .slice A1 l1.length c1] 45 (0, 0)) (by (with_reducible repeat (first | refine blk_drewN ?_ _ | refine blk_drew ?_ | refine blk_alloc ?_ _)); exact BK405.out) hb)
      have n7_ := Aside0.mk (below_step (B1_) hb)
      clear HO391
      clear HO394
      clear HO399
      clear HO402
      clear BK396
      clear BK404
      clear BK405
      clear HB
      have HO391 := n0_
      have HO394 := n1_
      have HO399 := n2_
      have HO402 := n3_
      have BK396 := n4_
      have BK404 := n5_
      have BK405 := n6_
      have HB := n7_
      clear n0_ n1_ n2_ n3_ n4_ n5_ n6_ n7_
      (try clear hb)
      (try clear hb2)
      (try clear hk)
      (try clear hi)
      refine hK.out _ _ ⟨(blk_cell BK396.out 0).trans rfl, (blk_cell BK396.out 1).trans rfl, (blk_cell BK404.out 0).trans rfl, (blk_cell BK404.out 1).trans rfl⟩ (fun hHeld => ?_)
      clear hK K
      refine norm_ (a' := ?_) ?_ ?_
      rotate_left
      ·show Act.put _ (some 38) _ = _
       simp only [Act.put, List.setIfInBounds_toArray, List.set_cons_zero, List.set_cons_succ, i64_w, i32_w]
       rfl
      refine pure_ (i := 3) (N := some 39) (v := ?_) (a' := ?_) #[T_,T_,T_,T_,F_,F_,F_,F_,F_,F_,F_,F_,F_,F_,F_,F_,F_,F_,F_,F_,F_,F_,F_,F_,F_,F_] rfl rfl (any_of HT_.out (by kernel_rfl)) (fun _ _ _ h => h) (Or.inl ⟨by rfl, ?_⟩) ?_ ?_
      rotate_left
      ·intro w'
       go_simp
       with_reducible rfl
      rotate_left
      ·simp only [Act.put, List.setIfInBounds_toArray, List.set_cons_zero, List.set_cons_succ, i64_w, i32_w]
       rfl
      refine pure_ (i := 4) (N := some 40) (v := ?_) (a' := ?_) #[T_,T_,T_,T_,T_,F_,F_,F_,F_,F_,F_,F_,F_,F_,F_,F_,F_,F_,F_,F_,F_,F_,F_,F_,F_,F_] rfl rfl (any_of HT_.out (by kernel_rfl)) (fun _ _ _ h => h) (Or.inl ⟨by rfl, ?_⟩) ?_ ?_
      rotate_left
      ·intro w'
       go_simp
       with_reducible rfl
      rotate_left
      ·simp only [Act.put, List.setIfInBounds_toArray, List.set_cons_zero, List.set_cons_succ, i64_w, i32_w]
       rfl
      refine pure_ (i := 5) (N := some 41) (v := ?_) (a' := ?_) #[T_,T_,T_,T_,T_,T_,F_,F_,F_,F_,F_,F_,F_,F_,F_,F_,F_,F_,F_,F_,F_,F_,F_,F_,F_,F_] rfl rfl (any_of HT_.out (by kernel_rfl)) (fun _ _ _ h => h) (Or.inl ⟨by rfl, ?_⟩) ?_ ?_
      rotate_left
      ·intro w'
       go_simp
       with_reducible rfl
      rotate_left
      ·simp only [Act.put, List.setIfInBounds_toArray, List.set_cons_zero, List.set_cons_succ, i64_w, i32_w]
       rfl
      refine pure_ (i := 6) (N := some 42) (v := ?_) (a' := ?_) #[T_,T_,T_,T_,T_,T_,T_,F_,F_,F_,F_,F_,F_,F_,F_,F_,F_,F_,F_,F_,F_,F_,F_,F_,F_,F_] rfl rfl (any_of HT_.out (by kernel_rfl)) (fun _ _ _ h => h) (Or.inl ⟨by rfl, ?_⟩) ?_ ?_
      rotate_left
      ·intro w'
       go_simp
       with_reducible rfl
      rotate_left
      ·simp only [Act.put, List.setIfInBounds_toArray, List.set_cons_zero, List.set_cons_succ, i64_w, i32_w]
       rfl
      refine pure_ (i := 7) (N := some 43) (v := ?_) (a' := ?_) #[T_,T_,T_,T_,T_,T_,T_,T_,F_,F_,F_,F_,F_,F_,F_,F_,F_,F_,F_,F_,F_,F_,F_,F_,F_,F_] rfl rfl (any_of HT_.out (by kernel_rfl)) (fun _ _ _ h => h) (Or.inl ⟨by rfl, ?_⟩) ?_ ?_
      rotate_left
      ·intro w'
       go_simp
       with_reducible rfl
      rotate_left
      ·simp only [Act.put, List.setIfInBounds_toArray, List.set_cons_zero, List.set_cons_succ, i64_w, i32_w]
       rfl
      refine pure_ (i := 8) (N := some 44) (v := ?_) (a' := ?_) #[T_,T_,T_,T_,T_,T_,T_,T_,T_,F_,F_,F_,F_,F_,F_,F_,F_,F_,F_,F_,F_,F_,F_,F_,F_,F_] rfl rfl (any_of HT_.out (by kernel_rfl)) (fun _ _ _ h => h) (Or.inl ⟨by rfl, ?_⟩) ?_ ?_
      rotate_left
      ·intro w'
       go_simp
       with_reducible rfl
      rotate_left
      ·simp only [Act.put, List.setIfInBounds_toArray, List.set_cons_zero, List.set_cons_succ, i64_w, i32_w]
       rfl
      refine pure_ (i := 9) (N := some 45) (v := ?_) (a' := ?_) #[T_,T_,T_,T_,T_,T_,T_,T_,T_,T_,F_,F_,F_,F_,F_,F_,F_,F_,F_,F_,F_,F_,F_,F_,F_,F_] rfl rfl (any_of HT_.out (by kernel_rfl)) (fun _ _ _ h => h) (Or.inl ⟨by rfl, ?_⟩) ?_ ?_
      rotate_left
      ·intro w'
       go_simp
       with_reducible rfl
      rotate_left
      ·simp only [Act.put, List.setIfInBounds_toArray, List.set_cons_zero, List.set_cons_succ, i64_w, i32_w]
       rfl
      refine pure_ (i := 10) (N := some 46) (v := undef) (a' := ?_) #[T_,T_,T_,T_,T_,T_,T_,T_,T_,T_,T_,F_,F_,F_,F_,F_,F_,F_,F_,F_,F_,F_,F_,F_,F_,F_] rfl rfl (any_of HT_.out (by kernel_rfl)) (fun _ _ _ h => h) (Or.inr ⟨by rfl, rfl⟩) ?_ ?_
      rotate_left
      ·simp only [Act.put, List.setIfInBounds_toArray, List.set_cons_zero, List.set_cons_succ, i64_w, i32_w]
       rfl
      refine pure_ (i := 11) (N := some 47) (v := undef) (a' := ?_) #[T_,T_,T_,T_,T_,T_,T_,T_,T_,T_,T_,T_,F_,F_,F_,F_,F_,F_,F_,F_,F_,F_,F_,F_,F_,F_] rfl rfl (any_of HT_.out (by kernel_rfl)) (fun _ _ _ h => h) (Or.inr ⟨by rfl, rfl⟩) ?_ ?_
      rotate_left
      ·simp only [Act.put, List.setIfInBounds_toArray, List.set_cons_zero, List.set_cons_succ, i64_w, i32_w]
       rfl
      refine pure_ (i := 12) (N := some 48) (v := undef) (a' := ?_) #[T_,T_,T_,T_,T_,T_,T_,T_,T_,T_,T_,T_,T_,F_,F_,F_,F_,F_,F_,F_,F_,F_,F_,F_,F_,F_] rfl rfl (any_of HT_.out (by kernel_rfl)) (fun _ _ _ h => h) (Or.inr ⟨by rfl, rfl⟩) ?_ ?_
      rotate_left
      ·simp only [Act.put, List.setIfInBounds_toArray, List.set_cons_zero, List.set_cons_succ, i64_w, i32_w]
       rfl
      refine pure_ (i := 13) (N := some 49) (v := undef) (a' := ?_) #[T_,T_,T_,T_,T_,T_,T_,T_,T_,T_,T_,T_,T_,T_,F_,F_,F_,F_,F_,F_,F_,F_,F_,F_,F_,F_] rfl rfl (any_of HT_.out (by kernel_rfl)) (fun _ _ _ h => h) (Or.inr ⟨by rfl, rfl⟩) ?_ ?_
      rotate_left
      ·simp only [Act.put, List.setIfInBounds_toArray, List.set_cons_zero, List.set_cons_succ, i64_w, i32_w]
       rfl
      refine pure_ (i := 14) (N := some 50) (v := undef) (a' := ?_) #[T_,T_,T_,T_,T_,T_,T_,T_,T_,T_,T_,T_,T_,T_,T_,F_,F_,F_,F_,F_,F_,F_,F_,F_,F_,F_] rfl rfl (any_of HT_.out (by kernel_rfl)) (fun _ _ _ h => h) (Or.inr ⟨by rfl, rfl⟩) ?_ ?_
      rotate_left
      ·simp only [Act.put, List.setIfInBounds_toArray, List.set_cons_zero, List.set_cons_succ, i64_w, i32_w]
       rfl
      refine pure_ (i := 15) (N := some 51) (v := ?_) (a' := ?_) #[T_,T_,T_,T_,T_,T_,T_,T_,T_,T_,T_,T_,T_,T_,T_,T_,F_,F_,F_,F_,F_,F_,F_,F_,F_,F_] rfl rfl (any_of HT_.out (by kernel_rfl)) (fun _ _ _ h => h) (Or.inl ⟨by rfl, ?_⟩) ?_ ?_
      rotate_left
      ·intro w'
       go_simp
       with_reducible rfl
      rotate_left
      ·simp only [Act.put, List.setIfInBounds_toArray, List.set_cons_zero, List.set_cons_succ, i64_w, i32_w]
       rfl
      refine pure_ (i := 16) (N := some 52) (v := ?_) (a' := ?_) #[T_,T_,T_,T_,T_,T_,T_,T_,T_,T_,T_,T_,T_,T_,T_,T_,T_,F_,F_,F_,F_,F_,F_,F_,F_,F_] rfl rfl (any_of HT_.out (by kernel_rfl)) (fun _ _ _ h => h) (Or.inl ⟨by rfl, ?_⟩) ?_ ?_
      rotate_left
      ·intro w'
       go_simp
       with_reducible rfl
      rotate_left
      ·simp only [Act.put, List.setIfInBounds_toArray, List.set_cons_zero, List.set_cons_succ, i64_w, i32_w]
       rfl
      refine pure_ (i := 17) (N := some 53) (v := undef) (a' := ?_) #[T_,T_,T_,T_,T_,T_,T_,T_,T_,T_,T_,T_,T_,T_,T_,T_,T_,T_,F_,F_,F_,F_,F_,F_,F_,F_] rfl rfl (any_of HT_.out (by kernel_rfl)) (fun _ _ _ h => h) (Or.inr ⟨by rfl, rfl⟩) ?_ ?_
      rotate_left
      ·simp only [Act.put, List.setIfInBounds_toArray, List.set_cons_zero, List.set_cons_succ, i64_w, i32_w]
       rfl
      refine pure_ (i := 18) (N := some 54) (v := undef) (a' := ?_) #[T_,T_,T_,T_,T_,T_,T_,T_,T_,T_,T_,T_,T_,T_,T_,T_,T_,T_,T_,F_,F_,F_,F_,F_,F_,F_] rfl rfl (any_of HT_.out (by kernel_rfl)) (fun _ _ _ h => h) (Or.inr ⟨by rfl, rfl⟩) ?_ ?_
      rotate_left
      ·simp only [Act.put, List.setIfInBounds_toArray, List.set_cons_zero, List.set_cons_succ, i64_w, i32_w]
       rfl
      refine pure_ (i := 19) (N := some 55) (v := undef) (a' := ?_) #[T_,T_,T_,T_,T_,T_,T_,T_,T_,T_,T_,T_,T_,T_,T_,T_,T_,T_,T_,T_,F_,F_,F_,F_,F_,F_] rfl rfl (any_of HT_.out (by kernel_rfl)) (fun _ _ _ h => h) (Or.inr ⟨by rfl, rfl⟩) ?_ ?_
      rotate_left
      ·simp only [Act.put, List.setIfInBounds_toArray, List.set_cons_zero, List.set_cons_succ, i64_w, i32_w]
       rfl
      refine pure_ (i := 20) (N := some 56) (v := undef) (a' := ?_) #[T_,T_,T_,T_,T_,T_,T_,T_,T_,T_,T_,T_,T_,T_,T_,T_,T_,T_,T_,T_,T_,F_,F_,F_,F_,F_] rfl rfl (any_of HT_.out (by kernel_rfl)) (fun _ _ _ h => h) (Or.inr ⟨by rfl, rfl⟩) ?_ ?_
      rotate_left
      ·simp only [Act.put, List.setIfInBounds_toArray, List.set_cons_zero, List.set_cons_succ, i64_w, i32_w]
       rfl
      refine pure_ (i := 21) (N := some 57) (v := undef) (a' := ?_) #[T_,T_,T_,T_,T_,T_,T_,T_,T_,T_,T_,T_,T_,T_,T_,T_,T_,T_,T_,T_,T_,T_,F_,F_,F_,F_] rfl rfl (any_of HT_.out (by kernel_rfl)) (fun _ _ _ h => h) (Or.inr ⟨by rfl, rfl⟩) ?_ ?_
      rotate_left
      ·simp only [Act.put, List.setIfInBounds_toArray, List.set_cons_zero, List.set_cons_succ, i64_w, i32_w]
       rfl
      refine pure_ (i := 22) (N := some 58) (v := undef) (a' := ?_) #[T_,T_,T_,T_,T_,T_,T_,T_,T_,T_,T_,T_,T_,T_,T_,T_,T_,T_,T_,T_,T_,T_,T_,F_,F_,F_] rfl rfl (any_of HT_.out (by kernel_rfl)) (fun _ _ _ h => h) (Or.inr ⟨by rfl, rfl⟩) ?_ ?_
      rotate_left
      ·simp only [Act.put, List.setIfInBounds_toArray, List.set_cons_zero, List.set_cons_succ, i64_w, i32_w]
       rfl
      refine pure_ (i := 23) (N := some 59) (v := undef) (a' := ?_) #[T_,T_,T_,T_,T_,T_,T_,T_,T_,T_,T_,T_,T_,T_,T_,T_,T_,T_,T_,T_,T_,T_,T_,T_,F_,F_] rfl rfl (any_of HT_.out (by kernel_rfl)) (fun _ _ _ h => h) (Or.inr ⟨by rfl, rfl⟩) ?_ ?_
      rotate_left
      ·simp only [Act.put, List.setIfInBounds_toArray, List.set_cons_zero, List.set_cons_succ, i64_w, i32_w]
       rfl
      refine pure_ (i := 24) (N := some 60) (v := undef) (a' := ?_) #[T_,T_,T_,T_,T_,T_,T_,T_,T_,T_,T_,T_,T_,T_,T_,T_,T_,T_,T_,T_,T_,T_,T_,T_,T_,F_] rfl rfl (any_of HT_.out (by kernel_rfl)) (fun _ _ _ h => h) (Or.inr ⟨by rfl, rfl⟩) ?_ ?_
      rotate_left
      ·simp only [Act.put, List.setIfInBounds_toArray, List.set_cons_zero, List.set_cons_succ, i64_w, i32_w]
       rfl
      refine pure_ (i := 25) (N := some 61) (v := ?_) (a' := ?_) #[T_,T_,T_,T_,T_,T_,T_,T_,T_,T_,T_,T_,T_,T_,T_,T_,T_,T_,T_,T_,T_,T_,T_,T_,T_,T_] rfl rfl (any_of HT_.out (by kernel_rfl)) (fun _ _ _ h => h) (Or.inl ⟨by rfl, ?_⟩) ?_ ?_
      rotate_left
      ·intro w'
       go_simp
       with_reducible rfl
      rotate_left
      ·simp only [Act.put, List.setIfInBounds_toArray, List.set_cons_zero, List.set_cons_succ, i64_w, i32_w]
       rfl
      refine done_ (done_of HT_.out (by kernel_rfl)) ?_
      try go_wp2
      go_meet
      case rel => exact ⟨_, (true), (by first | rfl | exact congrArg (fun b => Ending.returned (Value.bool b)) HR_.out | (simp; done) | (simp [*]; done)), H', ⟨by have := HJ5.out; first | omega | exact Nat.le_refl _⟩, ⟨by (with_reducible repeat (first | apply Kd.S_alloc | apply Kd.S_drewN | apply Kd.S_drew)); first | exact HO391.out | exact Kd.R_mono HO391.out (fun _ hk e_ => hk (e_.trans own_len))⟩, ⟨by (with_reducible repeat (first | apply Kd.S_alloc | apply Kd.S_drewN | apply Kd.S_drew)); first | exact HO394.out | exact Kd.R_mono HO394.out (fun _ hk e_ => hk (e_.trans own_len))⟩, ⟨by (with_reducible repeat (first | apply Kd.V_alloc | apply Kd.V_drewN | apply Kd.V_drew)); first | exact HO399.out | exact Kd.R_mono HO399.out (fun _ hk e_ => hk (e_.trans own_len))⟩, ⟨by (with_reducible repeat (first | apply Kd.S_alloc | apply Kd.S_drewN | apply Kd.S_drew)); first | exact HO402.out | exact Kd.R_mono HO402.out (fun _ hk e_ => hk (e_.trans own_len))⟩, ⟨by (with_reducible repeat (first | refine blk_drewN ?_ _ | refine blk_drew ?_ | refine blk_alloc ?_ _)); exact BK396.out⟩, ⟨by (with_reducible repeat (first | refine blk_drewN ?_ _ | refine blk_drew ?_ | refine blk_alloc ?_ _)); exact BK404.out⟩, ⟨by (with_reducible repeat (first | refine blk_drewN ?_ _ | refine blk_drew ?_ | refine blk_alloc ?_ _)); exact BK405.out⟩, ⟨B1_⟩⟩
     replace c32 := Bool.eq_false_iff.mpr c32
     subst c32
     have H1 : (locksteplaw06_GraphOrders.j1 kj5 a2 t395 true t389 t392 t397 t400) = some true := by rw [if_neg (show ¬ (false = true) by decide)] at H; exact H
     clear H
     have H := H1
     clear H1
     have H' := Aside0.mk H
     clear H
     try go_wp2
     have n0_ : Aside0 (Kd.S (Kd.slice 3 (Kd.int .i64)) 33 ((w27.setCell ⟨gb405, 0, none⟩ (.slice A0 l0.length c0)).setCell ⟨gb405, 1, none⟩ (.slice A1 l1.length c1)) w.heap.size (fun k_ => some k_ ≠ (.slice Ao19 t392.length co19 : Value).ownBlock ∧ some k_ ≠ (.slice Ao26 t400.length co26 : Value).ownBlock) (.slice Ao17 t389.length co17) t389) := ⟨by (with_reducible repeat (first | apply Kd.S_alloc | apply Kd.S_drewN | apply Kd.S_drew)); exact Kd.S_mono (Kd.S_far (p := ⟨gb405, 1, none⟩) (Kd.S_far (p := ⟨gb405, 0, none⟩) (Kd.S_types HO391.out BK405.out (by decide)) (fun _ hk => hk.2) (.slice A0 l0.length c0)) (fun _ hk => hk.2) (.slice A1 l1.length c1)) (fun _ hk => ⟨hk.1.1, hk.1.2⟩)⟩
     have n1_ : Aside0 (Kd.S (Kd.slice 3 (Kd.int .i64)) 33 ((w27.setCell ⟨gb405, 0, none⟩ (.slice A0 l0.length c0)).setCell ⟨gb405, 1, none⟩ (.slice A1 l1.length c1)) w.heap.size (fun k_ => some k_ ≠ (.slice Ao17 t389.length co17 : Value).ownBlock ∧ some k_ ≠ (.slice Ao26 t400.length co26 : Value).ownBlock) (.slice Ao19 t392.length co19) t392) := ⟨by (with_reducible repeat (first | apply Kd.S_alloc | apply Kd.S_drewN | apply Kd.S_drew)); exact Kd.S_mono (Kd.S_far (p := ⟨gb405, 1, none⟩) (Kd.S_far (p := ⟨gb405, 0, none⟩) (Kd.S_types HO394.out BK405.out (by decide)) (fun _ hk => hk.2) (.slice A0 l0.length c0)) (fun _ hk => hk.2) (.slice A1 l1.length c1)) (fun _ hk => ⟨hk.1.1, hk.1.2⟩)⟩
     have n2_ : Aside0 (Kd.V (Kd.slice 3 (Kd.int .i64)) 33 ((w27.setCell ⟨gb405, 0, none⟩ (.slice A0 l0.length c0)).setCell ⟨gb405, 1, none⟩ (.slice A1 l1.length c1)) w.heap.size (fun k_ => some k_ ≠ (.slice Ao17 t389.length co17 : Value).ownBlock ∧ some k_ ≠ (.slice Ao19 t392.length co19 : Value).ownBlock ∧ some k_ ≠ (.slice Ao26 t400.length co26 : Value).ownBlock ∧ k_ ≠ gb396 ∧ k_ ≠ gb404 ∧ k_ ≠ gb405) (.slice Ao23 t397.length co23) t397) := ⟨by (with_reducible repeat (first | apply Kd.V_alloc | apply Kd.V_drewN | apply Kd.V_drew)); exact Kd.V_mono (Kd.V_far (p := ⟨gb405, 1, none⟩) (Kd.V_far (p := ⟨gb405, 0, none⟩) (Kd.V_mono HO399.out (fun k_ hk => (⟨hk, hk.2⟩ : _ ∧ k_ ≠ gb405))) (fun _ hk => hk.2) (.slice A0 l0.length c0)) (fun _ hk => hk.2) (.slice A1 l1.length c1)) (fun _ hk => ⟨hk.1.1.1.2.1, ⟨hk.1.1.1.2.2.1, ⟨hk.1.1.1.1, ⟨hk.1.1.1.2.2.2, ⟨hk.1.1.2, hk.1.2⟩⟩⟩⟩⟩)⟩
     have n3_ : Aside0 (Kd.S (Kd.slice 3 (Kd.int .i64)) 33 ((w27.setCell ⟨gb405, 0, none⟩ (.slice A0 l0.length c0)).setCell ⟨gb405, 1, none⟩ (.slice A1 l1.length c1)) w.heap.size (fun k_ => some k_ ≠ (.slice Ao17 t389.length co17 : Value).ownBlock ∧ some k_ ≠ (.slice Ao19 t392.length co19 : Value).ownBlock) (.slice Ao26 t400.length co26) t400) := ⟨by (with_reducible repeat (first | apply Kd.S_alloc | apply Kd.S_drewN | apply Kd.S_drew)); exact Kd.S_mono (Kd.S_far (p := ⟨gb405, 1, none⟩) (Kd.S_far (p := ⟨gb405, 0, none⟩) (Kd.S_types HO402.out BK405.out (by decide)) (fun _ hk => hk.2) (.slice A0 l0.length c0)) (fun _ hk => hk.2) (.slice A1 l1.length c1)) (fun _ hk => ⟨hk.1.1.2, hk.1.2⟩)⟩
     have n4_ : Aside0 (((w27.setCell ⟨gb405, 0, none⟩ (.slice A0 l0.length c0)).setCell ⟨gb405, 1, none⟩ (.slice A1 l1.length c1)).heap[gb396]? = some (.cells #[.slice Ao17 t389.length co17, .slice Ao19 t392.length co19] 45 (0, 0))) := ⟨by (with_reducible repeat (first | refine blk_drewN ?_ _ | refine blk_drew ?_ | refine blk_alloc ?_ _)); refine blk_far ?_ NB396_405.out _; (with_reducible repeat (first | refine blk_drewN ?_ _ | refine blk_drew ?_ | refine blk_alloc ?_ _)); refine blk_far ?_ NB396_405.out _; (with_reducible repeat (first | refine blk_drewN ?_ _ | refine blk_drew ?_ | refine blk_alloc ?_ _)); exact BK396.out⟩
     have n5_ : Aside0 (((w27.setCell ⟨gb405, 0, none⟩ (.slice A0 l0.length c0)).setCell ⟨gb405, 1, none⟩ (.slice A1 l1.length c1)).heap[gb404]? = some (.cells #[.slice Ao23 t397.length co23, .slice Ao26 t400.length co26] 45 (0, 0))) := ⟨by (with_reducible repeat (first | refine blk_drewN ?_ _ | refine blk_drew ?_ | refine blk_alloc ?_ _)); refine blk_far ?_ NB404_405.out _; (with_reducible repeat (first | refine blk_drewN ?_ _ | refine blk_drew ?_ | refine blk_alloc ?_ _)); refine blk_far ?_ NB404_405.out _; (with_reducible repeat (first | refine blk_drewN ?_ _ | refine blk_drew ?_ | refine blk_alloc ?_ _)); exact BK404.out⟩
     have n6_ : Aside0 (((w27.setCell ⟨gb405, 0, none⟩ (.slice A0 l0.length c0)).setCell ⟨gb405, 1, none⟩ (.slice A1 l1.length c1)).heap[gb405]? = some (.cells #[.slice A0 l0.length c0, .slice A1 l1.length c1] 45 (0, 0))) := ⟨by (with_reducible repeat (first | refine blk_drewN ?_ _ | refine blk_drew ?_ | refine blk_alloc ?_ _)); refine blk_put (cs := #[.slice A0 l0.length c0, .slice none 0 0]) ?_ 1 _ rfl; (with_reducible repeat (first | refine blk_drewN ?_ _ | refine blk_drew ?_ | refine blk_alloc ?_ _)); refine blk_put (cs := #[.slice none 0 0, .slice none 0 0]) ?_ 0 _ rfl; (with_reducible repeat (first | refine blk_drewN ?_ _ | refine blk_drew ?_ | refine blk_alloc ?_ _)); exact BK405.out⟩
     have n7_ : Aside0 (Below w.heap.size w ((w27.setCell ⟨gb405, 0, none⟩ (.slice A0 l0.length c0)).setCell ⟨gb405, 1, none⟩ (.slice A1 l1.length c1))) := ⟨B1_⟩
     (try clear HO391)
     (try clear HO394)
     (try clear HO399)
     (try clear HO402)
     (try clear BK396)
     (try clear BK404)
     (try clear BK405)
     (try clear HB)
     generalize ((w27.setCell ⟨gb405, 0, none⟩ (.slice A0 l0.length c0)).setCell ⟨gb405, 1, none⟩ (.slice A1 l1.length c1)) = w57 at n0_ n1_ n2_ n3_ n4_ n5_ n6_ n7_ ⊢
     have HO391 := n0_
     have HO394 := n1_
     have HO399 := n2_
     have HO402 := n3_
     have BK396 := n4_
     have BK404 := n5_
     have BK405 := n6_
     have HB := n7_
     clear n0_ n1_ n2_ n3_ n4_ n5_ n6_ n7_
     have n0_ := Aside0.mk (Kd.S_drew HO391.out)
     have n1_ := Aside0.mk (Kd.S_drew HO394.out)
     have n2_ := Aside0.mk (Kd.V_drew HO399.out)
     have n3_ := Aside0.mk (Kd.S_drew HO402.out)
     have n4_ := Aside0.mk (blk_drew BK396.out)
     have n5_ := Aside0.mk (blk_drew BK404.out)
     have n6_ := Aside0.mk (blk_drew BK405.out)
     have n7_ := Aside0.mk (below_drew1 HB.out)
     clear HO391
     clear HO394
     clear HO399
     clear HO402
     clear BK396
     clear BK404
     clear BK405
     clear HB
     have HO391 := n0_
     have HO394 := n1_
     have HO399 := n2_
     have HO402 := n3_
     have BK396 := n4_
     have BK404 := n5_
     have BK405 := n6_
     have HB := n7_
     clear n0_ n1_ n2_ n3_ n4_ n5_ n6_ n7_
     refine start_ (n := 26) (S := fun w' => w'.cell? ⟨gb396, 0, none⟩ = some (.slice Ao17 t389.length co17) ∧ w'.cell? ⟨gb396, 1, none⟩ = some (.slice Ao19 t392.length co19) ∧ w'.cell? ⟨gb404, 0, none⟩ = some (.slice Ao23 t397.length co23) ∧ w'.cell? ⟨gb404, 1, none⟩ = some (.slice Ao26 t400.length co26)) (ds := []) #[F_,F_,F_,F_,F_,F_,F_,F_,F_,F_,F_,F_,F_,F_,F_,F_,F_,F_,F_,F_,F_,F_,F_,F_,F_,F_] (by kernel_rfl) rfl rfl ⟨(blk_cell BK396.out 0).trans rfl, (blk_cell BK396.out 1).trans rfl, (blk_cell BK404.out 0).trans rfl, (blk_cell BK404.out 1).trans rfl⟩ (fun hHeld => ?_); refine with_tabW locksteplaw06_GraphOrders.tab8 locksteplaw06_GraphOrders.bits8 (fun HT_ HW_ => ?_)
     generalize w57.drew = w58 at HO391 HO394 HO399 HO402 BK396 BK404 BK405 HB hHeld ⊢
     refine take_ (i := 0) (N := some 36) (v := ?_) (a' := ?_) #[T_,F_,F_,F_,F_,F_,F_,F_,F_,F_,F_,F_,F_,F_,F_,F_,F_,F_,F_,F_,F_,F_,F_,F_,F_,F_] rfl rfl (take_ofW HT_.out HW_.out (by kernel_rfl)) (fun _ _ _ h => h) (Or.inl ⟨by rfl, ?_⟩) hHeld ?_ ?_
     rotate_left
     ·rintro w' ⟨s0, s1, s2, s3⟩
      go_simp
      with_reducible rfl
     rotate_left
     ·simp only [Act.put, List.setIfInBounds_toArray, List.set_cons_zero, List.set_cons_succ, i64_w, i32_w]
      rfl
     refine take_ (i := 1) (N := some 37) (v := ?_) (a' := ?_) #[T_,T_,F_,F_,F_,F_,F_,F_,F_,F_,F_,F_,F_,F_,F_,F_,F_,F_,F_,F_,F_,F_,F_,F_,F_,F_] rfl rfl (take_ofW HT_.out HW_.out (by kernel_rfl)) (fun _ _ _ h => h) (Or.inl ⟨by rfl, ?_⟩) hHeld ?_ ?_
     rotate_left
     ·rintro w' ⟨s0, s1, s2, s3⟩
      go_simp
      with_reducible rfl
     rotate_left
     ·simp only [Act.put, List.setIfInBounds_toArray, List.set_cons_zero, List.set_cons_succ, i64_w, i32_w]
      rfl
     refine one_ (i := 2) (N := some 38) #[T_,T_,T_,F_,F_,F_,F_,F_,F_,F_,F_,F_,F_,F_,F_,F_,F_,F_,F_,F_,F_,F_,F_,F_,F_,F_] rfl rfl (one_of HT_.out (by kernel_rfl)) (by decide) (fun K hK => ?_)
     refine goes_ Try.func28 (by kernel_rfl) rfl #[.agg #[.slice Ao17 t389.length co17, .slice Ao19 t392.length co19], .agg #[.slice Ao23 t397.length co23, .slice Ao26 t400.length co26]] (by rfl) rfl rfl (by (try simp only [List.map_toArray, List.map_cons, List.map_nil]); first | done | rfl | (simp only [List.length_drop, List.length_take]; rfl)) ?_
     with_reducible refine (lockstepref06_Same.calls kj5 _ _ t389 _ _ t392 _ _ t397 _ _ t400 false _ ?side1 ?side2 ?side3 ?side4 ?side5 ?side6 ?side7 ?side8 A31.out).mono ?_
     (case side1 => repeat (first | exact (Kd.S_reads' HO391.out).2.2 | (with_reducible refine Kd.C_alloc ?_ _) | (with_reducible refine Kd.C_drewN ?_ _) | (with_reducible refine Kd.C_drew ?_)))
     (case side2 => exact (Kd.S_reads' HO391.out).2.1)
     (case side3 => repeat (first | exact (Kd.S_reads' HO394.out).2.2 | (with_reducible refine Kd.C_alloc ?_ _) | (with_reducible refine Kd.C_drewN ?_ _) | (with_reducible refine Kd.C_drew ?_)))
     (case side4 => exact (Kd.S_reads' HO394.out).2.1)
     (case side5 => repeat (first | exact (Kd.V_reads' HO399.out).2.2 | (with_reducible refine Kd.C_alloc ?_ _) | (with_reducible refine Kd.C_drewN ?_ _) | (with_reducible refine Kd.C_drew ?_)))
     (case side6 => exact (Kd.V_reads' HO399.out).2.1)
     (case side7 => repeat (first | exact (Kd.S_reads' HO402.out).2.2 | (with_reducible refine Kd.C_alloc ?_ _) | (with_reducible refine Kd.C_drewN ?_ _) | (with_reducible refine Kd.C_drew ?_)))
     (case side8 => exact (Kd.S_reads' HO402.out).2.1)
     rintro e w59 ⟨rfl, hb⟩
     refine ⟨_, rfl, ?_⟩
     have n0_ := Aside0.mk (Kd.S_below (by (with_reducible repeat (first | apply Kd.S_alloc | apply Kd.S_drewN | apply Kd.S_drew)); exact HO391.out) hb)
     have n1_ := Aside0.mk (Kd.S_below (by (with_reducible repeat (first | apply Kd.S_alloc | apply Kd.S_drewN | apply Kd.S_drew)); exact HO394.out) hb)
     have n2_ := Aside0.mk (Kd.V_below (by (with_reducible repeat (first | apply Kd.V_alloc | apply Kd.V_drewN | apply Kd.V_drew)); exact HO399.out) hb)
     have n3_ := Aside0.mk (Kd.S_below (by (with_reducible repeat (first | apply Kd.S_alloc | apply Kd.S_drewN | apply Kd.S_drew)); exact HO402.out) hb)
     have n4_ := Aside0.mk (blk_below (g := gb396) (o := .cells #[.slice Ao17 t389.length co17, .slice Ao19 t392.length co19] 45 (0, 0)) (by (with_reducible repeat (first | refine blk_drewN ?_ _ | refine blk_drew ?_ | refine blk_alloc ?_ _)); exact BK396.out) hb)
     have n5_ := Aside0.mk (blk_below (g := gb404) (o := .cells #[.slice Ao23 t397.length co23, .slice Ao26 t400.length co26] 45 (0, 0)) (by (with_reducible repeat (first | refine blk_drewN ?_ _ | refine blk_drew ?_ | refine blk_alloc ?_ _)); exact BK404.out) hb)
     have n6_ := Aside0.mk (blk_below (g := gb405) (o := .cells #[.slice A0 l0.length c0, .slice A1 l1.length c1] 45 (0, 0)) (by (with_reducible repeat (first | refine blk_drewN ?_ _ | refine blk_drew ?_ | refine blk_alloc ?_ _)); exact BK405.out) hb)
     have n7_ := Aside0.mk (below_step (B1_) hb)
     clear HO391
     clear HO394
     clear HO399
     clear HO402
     clear BK396
     clear BK404
     clear BK405
     clear HB
     have HO391 := n0_
     have HO394 := n1_
     have HO399 := n2_
     have HO402 := n3_
     have BK396 := n4_
     have BK404 := n5_
     have BK405 := n6_
     have HB := n7_
     clear n0_ n1_ n2_ n3_ n4_ n5_ n6_ n7_
     (try clear hb)
     (try clear hb2)
     (try clear hk)
     (try clear hi)
     refine hK.out _ _ ⟨(blk_cell BK396.out 0).trans rfl, (blk_cell BK396.out 1).trans rfl, (blk_cell BK404.out 0).trans rfl, (blk_cell BK404.out 1).trans rfl⟩ (fun hHeld => ?_)
     clear hK K
     refine norm_ (a' := ?_) ?_ ?_
     rotate_left
     ·show Act.put _ (some 38) _ = _
      simp only [Act.put, List.setIfInBounds_toArray, List.set_cons_zero, List.set_cons_succ, i64_w, i32_w]
      rfl
     refine pure_ (i := 3) (N := some 39) (v := ?_) (a' := ?_) #[T_,T_,T_,T_,F_,F_,F_,F_,F_,F_,F_,F_,F_,F_,F_,F_,F_,F_,F_,F_,F_,F_,F_,F_,F_,F_] rfl rfl (any_of HT_.out (by kernel_rfl)) (fun _ _ _ h => h) (Or.inl ⟨by rfl, ?_⟩) ?_ ?_
     rotate_left
     ·intro w'
      go_simp
      with_reducible rfl
     rotate_left
     ·simp only [Act.put, List.setIfInBounds_toArray, List.set_cons_zero, List.set_cons_succ, i64_w, i32_w]
      rfl
     refine pure_ (i := 4) (N := some 40) (v := ?_) (a' := ?_) #[T_,T_,T_,T_,T_,F_,F_,F_,F_,F_,F_,F_,F_,F_,F_,F_,F_,F_,F_,F_,F_,F_,F_,F_,F_,F_] rfl rfl (any_of HT_.out (by kernel_rfl)) (fun _ _ _ h => h) (Or.inl ⟨by rfl, ?_⟩) ?_ ?_
     rotate_left
     ·intro w'
      go_simp
      with_reducible rfl
     rotate_left
     ·simp only [Act.put, List.setIfInBounds_toArray, List.set_cons_zero, List.set_cons_succ, i64_w, i32_w]
      rfl
     refine pure_ (i := 5) (N := some 41) (v := undef) (a' := ?_) #[T_,T_,T_,T_,T_,T_,F_,F_,F_,F_,F_,F_,F_,F_,F_,F_,F_,F_,F_,F_,F_,F_,F_,F_,F_,F_] rfl rfl (any_of HT_.out (by kernel_rfl)) (fun _ _ _ h => h) (Or.inr ⟨by rfl, rfl⟩) ?_ ?_
     rotate_left
     ·simp only [Act.put, List.setIfInBounds_toArray, List.set_cons_zero, List.set_cons_succ, i64_w, i32_w]
      rfl
     refine pure_ (i := 6) (N := some 42) (v := undef) (a' := ?_) #[T_,T_,T_,T_,T_,T_,T_,F_,F_,F_,F_,F_,F_,F_,F_,F_,F_,F_,F_,F_,F_,F_,F_,F_,F_,F_] rfl rfl (any_of HT_.out (by kernel_rfl)) (fun _ _ _ h => h) (Or.inr ⟨by rfl, rfl⟩) ?_ ?_
     rotate_left
     ·simp only [Act.put, List.setIfInBounds_toArray, List.set_cons_zero, List.set_cons_succ, i64_w, i32_w]
      rfl
     refine pure_ (i := 7) (N := some 43) (v := undef) (a' := ?_) #[T_,T_,T_,T_,T_,T_,T_,T_,F_,F_,F_,F_,F_,F_,F_,F_,F_,F_,F_,F_,F_,F_,F_,F_,F_,F_] rfl rfl (any_of HT_.out (by kernel_rfl)) (fun _ _ _ h => h) (Or.inr ⟨by rfl, rfl⟩) ?_ ?_
     rotate_left
     ·simp only [Act.put, List.setIfInBounds_toArray, List.set_cons_zero, List.set_cons_succ, i64_w, i32_w]
      rfl
     refine pure_ (i := 8) (N := some 44) (v := ?_) (a' := ?_) #[T_,T_,T_,T_,T_,T_,T_,T_,T_,F_,F_,F_,F_,F_,F_,F_,F_,F_,F_,F_,F_,F_,F_,F_,F_,F_] rfl rfl (any_of HT_.out (by kernel_rfl)) (fun _ _ _ h => h) (Or.inl ⟨by rfl, ?_⟩) ?_ ?_
     rotate_left
     ·intro w'
      go_simp
      with_reducible rfl
     rotate_left
     ·simp only [Act.put, List.setIfInBounds_toArray, List.set_cons_zero, List.set_cons_succ, i64_w, i32_w]
      rfl
     refine pure_ (i := 9) (N := some 45) (v := ?_) (a' := ?_) #[T_,T_,T_,T_,T_,T_,T_,T_,T_,T_,F_,F_,F_,F_,F_,F_,F_,F_,F_,F_,F_,F_,F_,F_,F_,F_] rfl rfl (any_of HT_.out (by kernel_rfl)) (fun _ _ _ h => h) (Or.inl ⟨by rfl, ?_⟩) ?_ ?_
     rotate_left
     ·intro w'
      go_simp
      with_reducible rfl
     rotate_left
     ·simp only [Act.put, List.setIfInBounds_toArray, List.set_cons_zero, List.set_cons_succ, i64_w, i32_w]
      rfl
     refine pure_ (i := 10) (N := some 46) (v := undef) (a' := ?_) #[T_,T_,T_,T_,T_,T_,T_,T_,T_,T_,T_,F_,F_,F_,F_,F_,F_,F_,F_,F_,F_,F_,F_,F_,F_,F_] rfl rfl (any_of HT_.out (by kernel_rfl)) (fun _ _ _ h => h) (Or.inr ⟨by rfl, rfl⟩) ?_ ?_
     rotate_left
     ·simp only [Act.put, List.setIfInBounds_toArray, List.set_cons_zero, List.set_cons_succ, i64_w, i32_w]
      rfl
     refine pure_ (i := 11) (N := some 47) (v := undef) (a' := ?_) #[T_,T_,T_,T_,T_,T_,T_,T_,T_,T_,T_,T_,F_,F_,F_,F_,F_,F_,F_,F_,F_,F_,F_,F_,F_,F_] rfl rfl (any_of HT_.out (by kernel_rfl)) (fun _ _ _ h => h) (Or.inr ⟨by rfl, rfl⟩) ?_ ?_
     rotate_left
     ·simp only [Act.put, List.setIfInBounds_toArray, List.set_cons_zero, List.set_cons_succ, i64_w, i32_w]
      rfl
     refine pure_ (i := 12) (N := some 48) (v := undef) (a' := ?_) #[T_,T_,T_,T_,T_,T_,T_,T_,T_,T_,T_,T_,T_,F_,F_,F_,F_,F_,F_,F_,F_,F_,F_,F_,F_,F_] rfl rfl (any_of HT_.out (by kernel_rfl)) (fun _ _ _ h => h) (Or.inr ⟨by rfl, rfl⟩) ?_ ?_
     rotate_left
     ·simp only [Act.put, List.setIfInBounds_toArray, List.set_cons_zero, List.set_cons_succ, i64_w, i32_w]
      rfl
     refine pure_ (i := 13) (N := some 49) (v := undef) (a' := ?_) #[T_,T_,T_,T_,T_,T_,T_,T_,T_,T_,T_,T_,T_,T_,F_,F_,F_,F_,F_,F_,F_,F_,F_,F_,F_,F_] rfl rfl (any_of HT_.out (by kernel_rfl)) (fun _ _ _ h => h) (Or.inr ⟨by rfl, rfl⟩) ?_ ?_
     rotate_left
     ·simp only [Act.put, List.setIfInBounds_toArray, List.set_cons_zero, List.set_cons_succ, i64_w, i32_w]
      rfl
     refine pure_ (i := 14) (N := some 50) (v := undef) (a' := ?_) #[T_,T_,T_,T_,T_,T_,T_,T_,T_,T_,T_,T_,T_,T_,T_,F_,F_,F_,F_,F_,F_,F_,F_,F_,F_,F_] rfl rfl (any_of HT_.out (by kernel_rfl)) (fun _ _ _ h => h) (Or.inr ⟨by rfl, rfl⟩) ?_ ?_
     rotate_left
     ·simp only [Act.put, List.setIfInBounds_toArray, List.set_cons_zero, List.set_cons_succ, i64_w, i32_w]
      rfl
     refine pure_ (i := 15) (N := some 51) (v := ?_) (a' := ?_) #[T_,T_,T_,T_,T_,T_,T_,T_,T_,T_,T_,T_,T_,T_,T_,T_,F_,F_,F_,F_,F_,F_,F_,F_,F_,F_] rfl rfl (any_of HT_.out (by kernel_rfl)) (fun _ _ _ h => h) (Or.inl ⟨by rfl, ?_⟩) ?_ ?_
     rotate_left
     ·intro w'
      go_simp
      with_reducible rfl
     rotate_left
     ·simp only [Act.put, List.setIfInBounds_toArray, List.set_cons_zero, List.set_cons_succ, i64_w, i32_w]
      rfl
     refine pure_ (i := 16) (N := some 52) (v := ?_) (a' := ?_) #[T_,T_,T_,T_,T_,T_,T_,T_,T_,T_,T_,T_,T_,T_,T_,T_,T_,F_,F_,F_,F_,F_,F_,F_,F_,F_] rfl rfl (any_of HT_.out (by kernel_rfl)) (fun _ _ _ h => h) (Or.inl ⟨by rfl, ?_⟩) ?_ ?_
     rotate_left
     ·intro w'
      go_simp
      with_reducible rfl
     rotate_left
     ·simp only [Act.put, List.setIfInBounds_toArray, List.set_cons_zero, List.set_cons_succ, i64_w, i32_w]
      rfl
     refine pure_ (i := 17) (N := some 53) (v := undef) (a' := ?_) #[T_,T_,T_,T_,T_,T_,T_,T_,T_,T_,T_,T_,T_,T_,T_,T_,T_,T_,F_,F_,F_,F_,F_,F_,F_,F_] rfl rfl (any_of HT_.out (by kernel_rfl)) (fun _ _ _ h => h) (Or.inr ⟨by rfl, rfl⟩) ?_ ?_
     rotate_left
     ·simp only [Act.put, List.setIfInBounds_toArray, List.set_cons_zero, List.set_cons_succ, i64_w, i32_w]
      rfl
     refine pure_ (i := 18) (N := some 54) (v := undef) (a' := ?_) #[T_,T_,T_,T_,T_,T_,T_,T_,T_,T_,T_,T_,T_,T_,T_,T_,T_,T_,T_,F_,F_,F_,F_,F_,F_,F_] rfl rfl (any_of HT_.out (by kernel_rfl)) (fun _ _ _ h => h) (Or.inr ⟨by rfl, rfl⟩) ?_ ?_
     rotate_left
     ·simp only [Act.put, List.setIfInBounds_toArray, List.set_cons_zero, List.set_cons_succ, i64_w, i32_w]
      rfl
     refine pure_ (i := 19) (N := some 55) (v := undef) (a' := ?_) #[T_,T_,T_,T_,T_,T_,T_,T_,T_,T_,T_,T_,T_,T_,T_,T_,T_,T_,T_,T_,F_,F_,F_,F_,F_,F_] rfl rfl (any_of HT_.out (by kernel_rfl)) (fun _ _ _ h => h) (Or.inr ⟨by rfl, rfl⟩) ?_ ?_
     rotate_left
     ·simp only [Act.put, List.setIfInBounds_toArray, List.set_cons_zero, List.set_cons_succ, i64_w, i32_w]
      rfl
     refine pure_ (i := 20) (N := some 56) (v := undef) (a' := ?_) #[T_,T_,T_,T_,T_,T_,T_,T_,T_,T_,T_,T_,T_,T_,T_,T_,T_,T_,T_,T_,T_,F_,F_,F_,F_,F_] rfl rfl (any_of HT_.out (by kernel_rfl)) (fun _ _ _ h => h) (Or.inr ⟨by rfl, rfl⟩) ?_ ?_
     rotate_left
     ·simp only [Act.put, List.setIfInBounds_toArray, List.set_cons_zero, List.set_cons_succ, i64_w, i32_w]
      rfl
     refine pure_ (i := 21) (N := some 57) (v := undef) (a' := ?_) #[T_,T_,T_,T_,T_,T_,T_,T_,T_,T_,T_,T_,T_,T_,T_,T_,T_,T_,T_,T_,T_,T_,F_,F_,F_,F_] rfl rfl (any_of HT_.out (by kernel_rfl)) (fun _ _ _ h => h) (Or.inr ⟨by rfl, rfl⟩) ?_ ?_
     rotate_left
     ·simp only [Act.put, List.setIfInBounds_toArray, List.set_cons_zero, List.set_cons_succ, i64_w, i32_w]
      rfl
     refine pure_ (i := 22) (N := some 58) (v := undef) (a' := ?_) #[T_,T_,T_,T_,T_,T_,T_,T_,T_,T_,T_,T_,T_,T_,T_,T_,T_,T_,T_,T_,T_,T_,T_,F_,F_,F_] rfl rfl (any_of HT_.out (by kernel_rfl)) (fun _ _ _ h => h) (Or.inr ⟨by rfl, rfl⟩) ?_ ?_
     rotate_left
     ·simp only [Act.put, List.setIfInBounds_toArray, List.set_cons_zero, List.set_cons_succ, i64_w, i32_w]
      rfl
     refine pure_ (i := 23) (N := some 59) (v := undef) (a' := ?_) #[T_,T_,T_,T_,T_,T_,T_,T_,T_,T_,T_,T_,T_,T_,T_,T_,T_,T_,T_,T_,T_,T_,T_,T_,F_,F_] rfl rfl (any_of HT_.out (by kernel_rfl)) (fun _ _ _ h => h) (Or.inr ⟨by rfl, rfl⟩) ?_ ?_
     rotate_left
     ·simp only [Act.put, List.setIfInBounds_toArray, List.set_cons_zero, List.set_cons_succ, i64_w, i32_w]
      rfl
     refine pure_ (i := 24) (N := some 60) (v := undef) (a' := ?_) #[T_,T_,T_,T_,T_,T_,T_,T_,T_,T_,T_,T_,T_,T_,T_,T_,T_,T_,T_,T_,T_,T_,T_,T_,T_,F_] rfl rfl (any_of HT_.out (by kernel_rfl)) (fun _ _ _ h => h) (Or.inr ⟨by rfl, rfl⟩) ?_ ?_
     rotate_left
     ·simp only [Act.put, List.setIfInBounds_toArray, List.set_cons_zero, List.set_cons_succ, i64_w, i32_w]
      rfl
     refine pure_ (i := 25) (N := some 61) (v := ?_) (a' := ?_) #[T_,T_,T_,T_,T_,T_,T_,T_,T_,T_,T_,T_,T_,T_,T_,T_,T_,T_,T_,T_,T_,T_,T_,T_,T_,T_] rfl rfl (any_of HT_.out (by kernel_rfl)) (fun _ _ _ h => h) (Or.inl ⟨by rfl, ?_⟩) ?_ ?_
     rotate_left
     ·intro w'
      go_simp
      with_reducible rfl
     rotate_left
     ·simp only [Act.put, List.setIfInBounds_toArray, List.set_cons_zero, List.set_cons_succ, i64_w, i32_w]
      rfl
     refine done_ (done_of HT_.out (by kernel_rfl)) ?_
     try go_wp2
     go_meet
     case rel => exact ⟨_, (true), (by first | rfl | exact congrArg (fun b => Ending.returned (Value.bool b)) HR_.out | (simp; done) | (simp [*]; done)), H', ⟨by have := HJ5.out; first | omega | exact Nat.le_refl _⟩, ⟨by (with_reducible repeat (first | apply Kd.S_alloc | apply Kd.S_drewN | apply Kd.S_drew)); first | exact HO391.out | exact Kd.R_mono HO391.out (fun _ hk e_ => hk (e_.trans own_len))⟩, ⟨by (with_reducible repeat (first | apply Kd.S_alloc | apply Kd.S_drewN | apply Kd.S_drew)); first | exact HO394.out | exact Kd.R_mono HO394.out (fun _ hk e_ => hk (e_.trans own_len))⟩, ⟨by (with_reducible repeat (first | apply Kd.V_alloc | apply Kd.V_drewN | apply Kd.V_drew)); first | exact HO399.out | exact Kd.R_mono HO399.out (fun _ hk e_ => hk (e_.trans own_len))⟩, ⟨by (with_reducible repeat (first | apply Kd.S_alloc | apply Kd.S_drewN | apply Kd.S_drew)); first | exact HO402.out | exact Kd.R_mono HO402.out (fun _ hk e_ => hk (e_.trans own_len))⟩, ⟨by (with_reducible repeat (first | refine blk_drewN ?_ _ | refine blk_drew ?_ | refine blk_alloc ?_ _)); exact BK396.out⟩, ⟨by (with_reducible repeat (first | refine blk_drewN ?_ _ | refine blk_drew ?_ | refine blk_alloc ?_ _)); exact BK404.out⟩, ⟨by (with_reducible repeat (first | refine blk_drewN ?_ _ | refine blk_drew ?_ | refine blk_alloc ?_ _)); exact BK405.out⟩, ⟨B1_⟩⟩
    case rest =>
     clear HC14
     try clear c1
     try clear c2
     try clear p2
     try clear c3
     try clear c20
     try clear c28
     try clear c32
     try clear c33
     try clear c33b0
     try clear c33b1
     obtain ⟨kq, x61_13, rfl, HA, HJ13, HO_397000, HO_397001, HO_405000, HO_405001, BK396, BK404, BK405, HB⟩ := hcut
     cases kq with
     | zero => exact absurd HA.out (by simp [locksteplaw06_GraphOrders.j1])
     | succ kj13 =>
      have H := HA.out
      clear HA
      simp only [locksteplaw06_GraphOrders.j1] at H
      by_cases c60 : x61_13 = true
      ·subst c60
       have H1 : (some false) = some true := by rw [if_pos rfl] at H; exact H
       clear H
       have H := H1
       clear H1
       exact absurd H (by simp)
      replace c60 := Bool.eq_false_iff.mpr c60
      subst c60
      have H1 : ((graph_Turned.f kj13 t389 t392).bind fun bt416 => (if t395 = 0 then ((graph_Order.f kj13 t389 t392 a2).bind fun t423 => ((lockstepref06_Order.f kj13 t397 t400 a2).bind fun t426 => ((lockstepref02_Ints.f kj13 t423 t426).bind fun t429 => (if t429 = true then ((lockstepref06_Same.f kj13 bt416.1 bt416.2 t400 t397).bind fun t430 => (if t430 = true then ((graph_Turned.f kj13 bt416.1 bt416.2).bind fun bt431 => ((lockstepref06_Same.f kj13 bt431.1 bt431.2 t397 t400).bind fun t437 => (some t437))) else (some false))) else (some false))))) else (if (bt416.1.length : Int) = 0 then (some ((bt416.2.length : Int) == 0)) else (some false)))) = some true := by rw [if_neg (show ¬ (false = true) by decide)] at H; exact H
      clear H
      have H := H1
      clear H1
      replace H := Option.bind_eq_some_iff.mp H
      obtain ⟨⟨t416, t419⟩, A610, H⟩ := H
      replace H : (if t395 = 0 then ((graph_Order.f kj13 t389 t392 a2).bind fun t423 => ((lockstepref06_Order.f kj13 t397 t400 a2).bind fun t426 => ((lockstepref02_Ints.f kj13 t423 t426).bind fun t429 => (if t429 = true then ((lockstepref06_Same.f kj13 t416 t419 t400 t397).bind fun t430 => (if t430 = true then ((graph_Turned.f kj13 t416 t419).bind fun bt431 => ((lockstepref06_Same.f kj13 bt431.1 bt431.2 t397 t400).bind fun t437 => (some t437))) else (some false))) else (some false))))) else (if (t416.length : Int) = 0 then (some ((t419.length : Int) == 0)) else (some false))) = some true := H
      have A61 := Aside0.mk A610
      clear A610
      by_cases c62 : t395 = 0
      ·rw [if_pos c62] at H
       have c62b0 : (t395 == 0) = true := beq_iff_eq.mpr c62
       have c62b1 : (t395 != 0) = false := bne_eq_false_iff_eq.mpr c62
       clear c62
       replace H := Option.bind_eq_some_iff.mp H
       obtain ⟨t423, A630, H⟩ := H
       replace H : ((lockstepref06_Order.f kj13 t397 t400 a2).bind fun t426 => ((lockstepref02_Ints.f kj13 t423 t426).bind fun t429 => (if t429 = true then ((lockstepref06_Same.f kj13 t416 t419 t400 t397).bind fun t430 => (if t430 = true then ((graph_Turned.f kj13 t416 t419).bind fun bt431 => ((lockstepref06_Same.f kj13 bt431.1 bt431.2 t397 t400).bind fun t437 => (some t437))) else (some false))) else (some false)))) = some true := H
       have A63 := Aside0.mk A630
       clear A630
       replace H := Option.bind_eq_some_iff.mp H
       obtain ⟨t426, A640, H⟩ := H
       replace H : ((lockstepref02_Ints.f kj13 t423 t426).bind fun t429 => (if t429 = true then ((lockstepref06_Same.f kj13 t416 t419 t400 t397).bind fun t430 => (if t430 = true then ((graph_Turned.f kj13 t416 t419).bind fun bt431 => ((lockstepref06_Same.f kj13 bt431.1 bt431.2 t397 t400).bind fun t437 => (some t437))) else (some false))) else (some false))) = some true := H
       have A64 := Aside0.mk A640
       clear A640
       replace H := Option.bind_eq_some_iff.mp H
       obtain ⟨t429, A650, H⟩ := H
       replace H : (if t429 = true then ((lockstepref06_Same.f kj13 t416 t419 t400 t397).bind fun t430 => (if t430 = true then ((graph_Turned.f kj13 t416 t419).bind fun bt431 => ((lockstepref06_Same.f kj13 bt431.1 bt431.2 t397 t400).bind fun t437 => (some t437))) else (some false))) else (some false)) = some true := H
       have A65 := Aside0.mk A650
       clear A650
       by_cases c66 : t429 = true
       ·subst c66
        have H1 : ((lockstepref06_Same.f kj13 t416 t419 t400 t397).bind fun t430 => (if t430 = true then ((graph_Turned.f kj13 t416 t419).bind fun bt431 => ((lockstepref06_Same.f kj13 bt431.1 bt431.2 t397 t400).bind fun t437 => (some t437))) else (some false))) = some true := by rw [if_pos rfl] at H; exact H
        clear H
        have H := H1
        clear H1
        replace H := Option.bind_eq_some_iff.mp H
        obtain ⟨t430, A670, H⟩ := H
        replace H : (if t430 = true then ((graph_Turned.f kj13 t416 t419).bind fun bt431 => ((lockstepref06_Same.f kj13 bt431.1 bt431.2 t397 t400).bind fun t437 => (some t437))) else (some false)) = some true := H
        have A67 := Aside0.mk A670
        clear A670
        by_cases c68 : t430 = true
        ·subst c68
         have H1 : ((graph_Turned.f kj13 t416 t419).bind fun bt431 => ((lockstepref06_Same.f kj13 bt431.1 bt431.2 t397 t400).bind fun t437 => (some t437))) = some true := by rw [if_pos rfl] at H; exact H
         clear H
         have H := H1
         clear H1
         replace H := Option.bind_eq_some_iff.mp H
         obtain ⟨⟨t431, t434⟩, A690, H⟩ := H
         replace H : ((lockstepref06_Same.f kj13 t431 t434 t397 t400).bind fun t437 => (some t437)) = some true := H
         have A69 := Aside0.mk A690
         clear A690
         replace H := Option.bind_eq_some_iff.mp H
         obtain ⟨t437, A700, H⟩ := H
         replace H : (some t437) = some true := H
         have A70 := Aside0.mk A700
         clear A700
         have HR_ := Aside0.mk (Option.some.inj H)
         clear H
         have hnb71 := NB396_404.out
         have hnc71 := NB404_396.out
         have hnb72 := NB396_405.out
         have hnc72 := NB405_396.out
         have hcz73_0 : wc.cell? ⟨gb396, 0, none⟩ = some (.slice Ao17 t389.length co17) := (blk_cell BK396.out 0).trans rfl
         have hcz73_1 : wc.cell? ⟨gb396, 1, none⟩ = some (.slice Ao19 t392.length co19) := (blk_cell BK396.out 1).trans rfl
         have hfz73_0 := blk_frozen BK396.out 0
         have hfz73_1 := blk_frozen BK396.out 1
         try go_wp2_with (first | ((with_reducible refine gate_callee (f := 31) rfl ?_); refine goesL_ (some 63) rfl rfl Try.func31 (by kernel_rfl) rfl #[.agg #[.slice Ao17 t389.length co17, .slice Ao19 t392.length co19]] rfl (by (try simp only [List.map_toArray, List.map_cons, List.map_nil]); first | done | rfl | (simp only [List.length_drop, List.length_take]; rfl)) ?_; (with_reducible refine (graph_Turned.calls kj13 _ _ t389 _ _ t392 t416 t419 _ ?side1 ?side2 ?side3 ?side4 A61.out).mono ?_); (case side1 => repeat (first | exact (Kd.S_reads' HO_397000.out).2.2 | (with_reducible refine Kd.C_alloc ?_ _) | (with_reducible refine Kd.C_drewN ?_ _) | (with_reducible refine Kd.C_drew ?_))); (case side2 => exact (Kd.S_reads' HO_397000.out).2.1); (case side3 => repeat (first | exact (Kd.S_reads' HO_397001.out).2.2 | (with_reducible refine Kd.C_alloc ?_ _) | (with_reducible refine Kd.C_drewN ?_ _) | (with_reducible refine Kd.C_drew ?_))); (case side4 => exact (Kd.S_reads' HO_397001.out).2.1); rintro e w74 ⟨v417, v420, rfl, ho0, ho1, hb⟩; refine ⟨_, rfl, ?_⟩; have n0_ := Aside0.mk (Kd.S_mono (Kd.S_told (Kd.S_told (Kd.S_old (by (with_reducible repeat (first | apply Kd.S_alloc | apply Kd.S_drewN | apply Kd.S_drew)); exact HO_397000.out) hb) (Kd.S_base ho0)) (Kd.S_base ho1)) (fun _ h_ => h_.1)); have n1_ := Aside0.mk (Kd.S_mono (Kd.S_told (Kd.S_told (Kd.S_old (by (with_reducible repeat (first | apply Kd.S_alloc | apply Kd.S_drewN | apply Kd.S_drew)); exact HO_397001.out) hb) (Kd.S_base ho0)) (Kd.S_base ho1)) (fun _ h_ => h_.1)); have n2_ := Aside0.mk (Kd.V_mono (Kd.V_told (Kd.V_told (Kd.V_old (by (with_reducible repeat (first | apply Kd.V_alloc | apply Kd.V_drewN | apply Kd.V_drew)); exact HO_405000.out) hb) (Kd.S_base ho0)) (Kd.S_base ho1)) (fun _ h_ => h_.1)); have n3_ := Aside0.mk (Kd.S_mono (Kd.S_told (Kd.S_told (Kd.S_old (by (with_reducible repeat (first | apply Kd.S_alloc | apply Kd.S_drewN | apply Kd.S_drew)); exact HO_405001.out) hb) (Kd.S_base ho0)) (Kd.S_base ho1)) (fun _ h_ => h_.1)); have n4_ := Aside0.mk (Kd.S_lower (Kd.S_new' (Kd.S_new' (Kd.S_new' ho0 (Kd.S_lt (by (with_reducible repeat (first | apply Kd.S_alloc | apply Kd.S_drewN | apply Kd.S_drew)); exact HO_397000.out))) (Kd.S_lt (by (with_reducible repeat (first | apply Kd.S_alloc | apply Kd.S_drewN | apply Kd.S_drew)); exact HO_397001.out))) (Kd.S_lt (by (with_reducible repeat (first | apply Kd.S_alloc | apply Kd.S_drewN | apply Kd.S_drew)); exact HO_405001.out))) (below_size (B1_))); have n5_ := Aside0.mk (Kd.S_lower (Kd.S_new' (Kd.S_new' (Kd.S_new' ho1 (Kd.S_lt (by (with_reducible repeat (first | apply Kd.S_alloc | apply Kd.S_drewN | apply Kd.S_drew)); exact HO_397000.out))) (Kd.S_lt (by (with_reducible repeat (first | apply Kd.S_alloc | apply Kd.S_drewN | apply Kd.S_drew)); exact HO_397001.out))) (Kd.S_lt (by (with_reducible repeat (first | apply Kd.S_alloc | apply Kd.S_drewN | apply Kd.S_drew)); exact HO_405001.out))) (below_size (B1_))); have n6_ := Aside0.mk (blk_below (g := gb396) (o := .cells #[.slice Ao17 t389.length co17, .slice Ao19 t392.length co19] 45 (0, 0)) (by (with_reducible repeat (first | refine blk_drewN ?_ _ | refine blk_drew ?_ | refine blk_alloc ?_ _)); exact BK396.out) hb); have n7_ := Aside0.mk (blk_below (g := gb404) (o := .cells #[.slice Ao23 t397.length co23, .slice Ao26 t400.length co26] 45 (0, 0)) (by (with_reducible repeat (first | refine blk_drewN ?_ _ | refine blk_drew ?_ | refine blk_alloc ?_ _)); exact BK404.out) hb); have n8_ := Aside0.mk (blk_below (g := gb405) (o := .cells #[.slice A0 l0.length c0, .slice A1 l1.length c1] 45 (0, 0)) (by (with_reducible repeat (first | refine blk_drewN ?_ _ | refine blk_drew ?_ | refine blk_alloc ?_ _)); exact BK405.out) hb); have n9_ := Aside0.mk (below_step (B1_) hb); clear HO_397000; clear HO_397001; clear HO_405000; clear HO_405001; clear BK396; clear BK404; clear BK405; clear HB; have HO_397000 := n0_; have HO_397001 := n1_; have HO_405000 := n2_; have HO_405001 := n3_; have HO418 := n4_; have HO421 := n5_; have BK396 := n6_; have BK404 := n7_; have BK405 := n8_; have HB := n9_; clear n0_ n1_ n2_ n3_ n4_ n5_ n6_ n7_ n8_ n9_; (try clear hb); (try clear hb2); (try clear hk); (try clear hi); (try clear ho0); (try clear ho1)) | ((with_reducible refine gate_dst (N := 12) rfl ?_); (try (refine gate_guard (by rfl) ?_; dsimp only)); refine box_event ?hg (N := 12) ?hd (cs := #[.slice none 0 0, .slice none 0 0]) (t := 45) ?hr ?_; (case hd => rfl); (case hg => rfl); (case hr => first | (go_simp; done) | (go_simp; rfl)); intro gb422 hg w75 hbox hb; have n0_ := Aside0.mk (Kd.S_below (by (with_reducible repeat (first | apply Kd.S_alloc | apply Kd.S_drewN | apply Kd.S_drew)); exact HO_397000.out) hb); have n1_ := Aside0.mk (Kd.S_below (by (with_reducible repeat (first | apply Kd.S_alloc | apply Kd.S_drewN | apply Kd.S_drew)); exact HO_397001.out) hb); have n2_ := Aside0.mk (Kd.V_below (Kd.V_elderB (by (with_reducible repeat (first | apply Kd.V_alloc | apply Kd.V_drewN | apply Kd.V_drew)); exact HO_405000.out) gb422 (Nat.le_of_eq hg.symm)) hb); have n3_ := Aside0.mk (Kd.S_below (by (with_reducible repeat (first | apply Kd.S_alloc | apply Kd.S_drewN | apply Kd.S_drew)); exact HO_405001.out) hb); have n4_ := Aside0.mk (Kd.S_below (by (with_reducible repeat (first | apply Kd.S_alloc | apply Kd.S_drewN | apply Kd.S_drew)); exact HO418.out) hb); have n5_ := Aside0.mk (Kd.S_below (by (with_reducible repeat (first | apply Kd.S_alloc | apply Kd.S_drewN | apply Kd.S_drew)); exact HO421.out) hb); have n6_ := Aside0.mk (blk_below (g := gb396) (o := .cells #[.slice Ao17 t389.length co17, .slice Ao19 t392.length co19] 45 (0, 0)) (by (with_reducible repeat (first | refine blk_drewN ?_ _ | refine blk_drew ?_ | refine blk_alloc ?_ _)); exact BK396.out) hb); have n7_ := Aside0.mk (blk_below (g := gb404) (o := .cells #[.slice Ao23 t397.length co23, .slice Ao26 t400.length co26] 45 (0, 0)) (by (with_reducible repeat (first | refine blk_drewN ?_ _ | refine blk_drew ?_ | refine blk_alloc ?_ _)); exact BK404.out) hb); have n8_ := Aside0.mk (blk_below (g := gb405) (o := .cells #[.slice A0 l0.length c0, .slice A1 l1.length c1] 45 (0, 0)) (by (with_reducible repeat (first | refine blk_drewN ?_ _ | refine blk_drew ?_ | refine blk_alloc ?_ _)); exact BK405.out) hb); have n9_ := Aside0.mk (below_step (B1_) hb); have n10_ := Aside0.mk (hbox); have n11_ := Aside0.mk ((by rw [hg]; exact (below_size (B1_)) : w.heap.size ≤ gb422)); have n12_ := Aside0.mk ((by rw [hg]; exact (below_size (B1_)) : w.heap.size ≤ gb422)); have n13_ := Aside0.mk ((by rw [hg]; exact Nat.ne_of_lt (blk_lt (g := gb396) (o := .cells #[.slice Ao17 t389.length co17, .slice Ao19 t392.length co19] 45 (0, 0)) (by (with_reducible repeat (first | refine blk_drewN ?_ _ | refine blk_drew ?_ | refine blk_alloc ?_ _)); exact BK396.out)) : gb396 ≠ gb422)); have n14_ := Aside0.mk ((by rw [hg]; exact Nat.ne_of_gt (blk_lt (g := gb396) (o := .cells #[.slice Ao17 t389.length co17, .slice Ao19 t392.length co19] 45 (0, 0)) (by (with_reducible repeat (first | refine blk_drewN ?_ _ | refine blk_drew ?_ | refine blk_alloc ?_ _)); exact BK396.out)) : gb422 ≠ gb396)); have n15_ := Aside0.mk ((by rw [hg]; exact Nat.ne_of_lt (blk_lt (g := gb404) (o := .cells #[.slice Ao23 t397.length co23, .slice Ao26 t400.length co26] 45 (0, 0)) (by (with_reducible repeat (first | refine blk_drewN ?_ _ | refine blk_drew ?_ | refine blk_alloc ?_ _)); exact BK404.out)) : gb404 ≠ gb422)); have n16_ := Aside0.mk ((by rw [hg]; exact Nat.ne_of_gt (blk_lt (g := gb404) (o := .cells #[.slice Ao23 t397.length co23, .slice Ao26 t400.length co26] 45 (0, 0)) (by (with_reducible repeat (first | refine blk_drewN ?_ _ | refine blk_drew ?_ | refine blk_alloc ?_ _)); exact BK404.out)) : gb422 ≠ gb404)); have n17_ := Aside0.mk ((by rw [hg]; exact Nat.ne_of_lt (blk_lt (g := gb405) (o := .cells #[.slice A0 l0.length c0, .slice A1 l1.length c1] 45 (0, 0)) (by (with_reducible repeat (first | refine blk_drewN ?_ _ | refine blk_drew ?_ | refine blk_alloc ?_ _)); exact BK405.out)) : gb405 ≠ gb422)); have n18_ := Aside0.mk ((by rw [hg]; exact Nat.ne_of_gt (blk_lt (g := gb405) (o := .cells #[.slice A0 l0.length c0, .slice A1 l1.length c1] 45 (0, 0)) (by (with_reducible repeat (first | refine blk_drewN ?_ _ | refine blk_drew ?_ | refine blk_alloc ?_ _)); exact BK405.out)) : gb422 ≠ gb405)); clear HO_397000; clear HO_397001; clear HO_405000; clear HO_405001; clear HO418; clear HO421; clear BK396; clear BK404; clear BK405; clear HB; have HO_397000 := n0_; have HO_397001 := n1_; have HO_405000 := n2_; have HO_405001 := n3_; have HO418 := n4_; have HO421 := n5_; have BK396 := n6_; have BK404 := n7_; have BK405 := n8_; have HB := n9_; have BK422 := n10_; have GW422 := n11_; have GE422 := n12_; have NB396_422 := n13_; have NB422_396 := n14_; have NB404_422 := n15_; have NB422_404 := n16_; have NB405_422 := n17_; have NB422_405 := n18_; clear n0_ n1_ n2_ n3_ n4_ n5_ n6_ n7_ n8_ n9_ n10_ n11_ n12_ n13_ n14_ n15_ n16_ n17_ n18_; clear hb hbox hg; obtain ⟨Ao76, co76, eo76⟩ := Kd.S_slice HO418.out; subst eo76; have hnb77 := NB422_396.out; have hnc77 := NB396_422.out; have hnb78 := NB422_404.out; have hnc78 := NB404_422.out; have hnb79 := NB422_405.out; have hnc79 := NB405_422.out; have hcz80_0 : w75.cell? ⟨gb422, 0, none⟩ = some (.slice none 0 0) := (blk_cell BK422.out 0).trans rfl; have hcz80_1 : w75.cell? ⟨gb422, 1, none⟩ = some (.slice none 0 0) := (blk_cell BK422.out 1).trans rfl; have hfz80_0 := blk_frozen BK422.out 0; have hfz80_1 := blk_frozen BK422.out 1; obtain ⟨Ao81, co81, eo81⟩ := Kd.S_slice HO421.out; subst eo81))
         have n0_ : Aside0 (Kd.S (Kd.slice 3 (Kd.int .i64)) 33 ((w75.setCell ⟨gb422, 0, none⟩ (.slice Ao76 t416.length co76)).setCell ⟨gb422, 1, none⟩ (.slice Ao81 t419.length co81)) w.heap.size (fun k_ => some k_ ≠ (.slice Ao19 t392.length co19 : Value).ownBlock ∧ some k_ ≠ (.slice Ao26 t400.length co26 : Value).ownBlock ∧ some k_ ≠ (.slice Ao76 t416.length co76 : Value).ownBlock ∧ some k_ ≠ (.slice Ao81 t419.length co81 : Value).ownBlock) (.slice Ao17 t389.length co17) t389) := ⟨by (with_reducible repeat (first | apply Kd.S_alloc | apply Kd.S_drewN | apply Kd.S_drew)); exact Kd.S_mono (Kd.S_far (p := ⟨gb422, 1, none⟩) (Kd.S_far (p := ⟨gb422, 0, none⟩) (Kd.S_types HO_397000.out BK422.out (by decide)) (fun _ hk => hk.2) (.slice Ao76 t416.length co76)) (fun _ hk => hk.2) (.slice Ao81 t419.length co81)) (fun _ hk => ⟨hk.1.1.1.1, ⟨hk.1.1.1.2, ⟨hk.1.1.2, hk.1.2⟩⟩⟩)⟩
         have n1_ : Aside0 (Kd.S (Kd.slice 3 (Kd.int .i64)) 33 ((w75.setCell ⟨gb422, 0, none⟩ (.slice Ao76 t416.length co76)).setCell ⟨gb422, 1, none⟩ (.slice Ao81 t419.length co81)) w.heap.size (fun k_ => some k_ ≠ (.slice Ao17 t389.length co17 : Value).ownBlock ∧ some k_ ≠ (.slice Ao26 t400.length co26 : Value).ownBlock ∧ some k_ ≠ (.slice Ao76 t416.length co76 : Value).ownBlock ∧ some k_ ≠ (.slice Ao81 t419.length co81 : Value).ownBlock) (.slice Ao19 t392.length co19) t392) := ⟨by (with_reducible repeat (first | apply Kd.S_alloc | apply Kd.S_drewN | apply Kd.S_drew)); exact Kd.S_mono (Kd.S_far (p := ⟨gb422, 1, none⟩) (Kd.S_far (p := ⟨gb422, 0, none⟩) (Kd.S_types HO_397001.out BK422.out (by decide)) (fun _ hk => hk.2) (.slice Ao76 t416.length co76)) (fun _ hk => hk.2) (.slice Ao81 t419.length co81)) (fun _ hk => ⟨hk.1.1.1.1, ⟨hk.1.1.1.2, ⟨hk.1.1.2, hk.1.2⟩⟩⟩)⟩
         have n2_ : Aside0 (Kd.V (Kd.slice 3 (Kd.int .i64)) 33 ((w75.setCell ⟨gb422, 0, none⟩ (.slice Ao76 t416.length co76)).setCell ⟨gb422, 1, none⟩ (.slice Ao81 t419.length co81)) w.heap.size (fun k_ => some k_ ≠ (.slice Ao17 t389.length co17 : Value).ownBlock ∧ some k_ ≠ (.slice Ao19 t392.length co19 : Value).ownBlock ∧ some k_ ≠ (.slice Ao26 t400.length co26 : Value).ownBlock ∧ some k_ ≠ (.slice Ao76 t416.length co76 : Value).ownBlock ∧ some k_ ≠ (.slice Ao81 t419.length co81 : Value).ownBlock ∧ k_ ≠ gb396 ∧ k_ ≠ gb404 ∧ k_ ≠ gb405 ∧ k_ ≠ gb422) (.slice Ao23 t397.length co23) t397) := ⟨by (with_reducible repeat (first | apply Kd.V_alloc | apply Kd.V_drewN | apply Kd.V_drew)); exact Kd.V_mono (Kd.V_far (p := ⟨gb422, 1, none⟩) (Kd.V_far (p := ⟨gb422, 0, none⟩) (Kd.V_mono HO_405000.out (fun k_ hk => (⟨hk, hk.2⟩ : _ ∧ k_ ≠ gb422))) (fun _ hk => hk.2) (.slice Ao76 t416.length co76)) (fun _ hk => hk.2) (.slice Ao81 t419.length co81)) (fun _ hk => ⟨hk.1.1.1.1.1, ⟨hk.1.1.1.1.2.1, ⟨hk.1.1.1.1.2.2.1, ⟨hk.1.1.1.2, ⟨hk.1.1.2, ⟨hk.1.1.1.1.2.2.2.1, ⟨hk.1.1.1.1.2.2.2.2.1, ⟨hk.1.1.1.1.2.2.2.2.2, hk.1.2⟩⟩⟩⟩⟩⟩⟩⟩)⟩
         have n3_ : Aside0 (Kd.S (Kd.slice 3 (Kd.int .i64)) 33 ((w75.setCell ⟨gb422, 0, none⟩ (.slice Ao76 t416.length co76)).setCell ⟨gb422, 1, none⟩ (.slice Ao81 t419.length co81)) w.heap.size (fun k_ => some k_ ≠ (.slice Ao17 t389.length co17 : Value).ownBlock ∧ some k_ ≠ (.slice Ao19 t392.length co19 : Value).ownBlock ∧ some k_ ≠ (.slice Ao76 t416.length co76 : Value).ownBlock ∧ some k_ ≠ (.slice Ao81 t419.length co81 : Value).ownBlock) (.slice Ao26 t400.length co26) t400) := ⟨by (with_reducible repeat (first | apply Kd.S_alloc | apply Kd.S_drewN | apply Kd.S_drew)); exact Kd.S_mono (Kd.S_far (p := ⟨gb422, 1, none⟩) (Kd.S_far (p := ⟨gb422, 0, none⟩) (Kd.S_types HO_405001.out BK422.out (by decide)) (fun _ hk => hk.2) (.slice Ao76 t416.length co76)) (fun _ hk => hk.2) (.slice Ao81 t419.length co81)) (fun _ hk => ⟨hk.1.1.1.1, ⟨hk.1.1.1.2, ⟨hk.1.1.2, hk.1.2⟩⟩⟩)⟩
         have n4_ : Aside0 (Kd.S (Kd.slice 3 (Kd.int .i64)) 33 ((w75.setCell ⟨gb422, 0, none⟩ (.slice Ao76 t416.length co76)).setCell ⟨gb422, 1, none⟩ (.slice Ao81 t419.length co81)) w.heap.size (fun k_ => some k_ ≠ (.slice Ao17 t389.length co17 : Value).ownBlock ∧ some k_ ≠ (.slice Ao19 t392.length co19 : Value).ownBlock ∧ some k_ ≠ (.slice Ao26 t400.length co26 : Value).ownBlock ∧ some k_ ≠ (.slice Ao81 t419.length co81 : Value).ownBlock) (.slice Ao76 t416.length co76) t416) := ⟨by (with_reducible repeat (first | apply Kd.S_alloc | apply Kd.S_drewN | apply Kd.S_drew)); exact Kd.S_mono (Kd.S_far (p := ⟨gb422, 1, none⟩) (Kd.S_far (p := ⟨gb422, 0, none⟩) (Kd.S_types HO418.out BK422.out (by decide)) (fun _ hk => hk.2) (.slice Ao76 t416.length co76)) (fun _ hk => hk.2) (.slice Ao81 t419.length co81)) (fun _ hk => ⟨hk.1.1.1.2, ⟨hk.1.1.2, ⟨hk.1.2, hk.1.1.1.1⟩⟩⟩)⟩
         have n5_ : Aside0 (Kd.S (Kd.slice 3 (Kd.int .i64)) 33 ((w75.setCell ⟨gb422, 0, none⟩ (.slice Ao76 t416.length co76)).setCell ⟨gb422, 1, none⟩ (.slice Ao81 t419.length co81)) w.heap.size (fun k_ => some k_ ≠ (.slice Ao17 t389.length co17 : Value).ownBlock ∧ some k_ ≠ (.slice Ao19 t392.length co19 : Value).ownBlock ∧ some k_ ≠ (.slice Ao26 t400.length co26 : Value).ownBlock ∧ some k_ ≠ (.slice Ao76 t416.length co76 : Value).ownBlock) (.slice Ao81 t419.length co81) t419) := ⟨by (with_reducible repeat (first | apply Kd.S_alloc | apply Kd.S_drewN | apply Kd.S_drew)); exact Kd.S_mono (Kd.S_far (p := ⟨gb422, 1, none⟩) (Kd.S_far (p := ⟨gb422, 0, none⟩) (Kd.S_types HO421.out BK422.out (by decide)) (fun _ hk => hk.2) (.slice Ao76 t416.length co76)) (fun _ hk => hk.2) (.slice Ao81 t419.length co81)) (fun _ hk => ⟨hk.1.1.1.2, ⟨hk.1.1.2, ⟨hk.1.2, hk.1.1.1.1⟩⟩⟩)⟩
         have n6_ : Aside0 (((w75.setCell ⟨gb422, 0, none⟩ (.slice Ao76 t416.length co76)).setCell ⟨gb422, 1, none⟩ (.slice Ao81 t419.length co81)).heap[gb396]? = some (.cells #[.slice Ao17 t389.length co17, .slice Ao19 t392.length co19] 45 (0, 0))) := ⟨by (with_reducible repeat (first | refine blk_drewN ?_ _ | refine blk_drew ?_ | refine blk_alloc ?_ _)); refine blk_far ?_ NB396_422.out _; (with_reducible repeat (first | refine blk_drewN ?_ _ | refine blk_drew ?_ | refine blk_alloc ?_ _)); refine blk_far ?_ NB396_422.out _; (with_reducible repeat (first | refine blk_drewN ?_ _ | refine blk_drew ?_ | refine blk_alloc ?_ _)); exact BK396.out⟩
         have n7_ : Aside0 (((w75.setCell ⟨gb422, 0, none⟩ (.slice Ao76 t416.length co76)).setCell ⟨gb422, 1, none⟩ (.slice Ao81 t419.length co81)).heap[gb404]? = some (.cells #[.slice Ao23 t397.length co23, .slice Ao26 t400.length co26] 45 (0, 0))) := ⟨by (with_reducible repeat (first | refine blk_drewN ?_ _ | refine blk_drew ?_ | refine blk_alloc ?_ _)); refine blk_far ?_ NB404_422.out _; (with_reducible repeat (first | refine blk_drewN ?_ _ | refine blk_drew ?_ | refine blk_alloc ?_ _)); refine blk_far ?_ NB404_422.out _; (with_reducible repeat (first | refine blk_drewN ?_ _ | refine blk_drew ?_ | refine blk_alloc ?_ _)); exact BK404.out⟩
         have n8_ : Aside0 (((w75.setCell ⟨gb422, 0, none⟩ (.slice Ao76 t416.length co76)).setCell ⟨gb422, 1, none⟩ (.slice Ao81 t419.length co81)).heap[gb405]? = some (.cells #[.slice A0 l0.length c0, .slice A1 l1.length c1] 45 (0, 0))) := ⟨by (with_reducible repeat (first | refine blk_drewN ?_ _ | refine blk_drew ?_ | refine blk_alloc ?_ _)); refine blk_far ?_ NB405_422.out _; (with_reducible repeat (first | refine blk_drewN ?_ _ | refine blk_drew ?_ | refine blk_alloc ?_ _)); refine blk_far ?_ NB405_422.out _; (with_reducible repeat (first | refine blk_drewN ?_ _ | refine blk_drew ?_ | refine blk_alloc ?_ _)); exact BK405.out⟩
         have n9_ : Aside0 (((w75.setCell ⟨gb422, 0, none⟩ (.slice Ao76 t416.length co76)).setCell ⟨gb422, 1, none⟩ (.slice Ao81 t419.length co81)).heap[gb422]? = some (.cells #[.slice Ao76 t416.length co76, .slice Ao81 t419.length co81] 45 (0, 0))) := ⟨by (with_reducible repeat (first | refine blk_drewN ?_ _ | refine blk_drew ?_ | refine blk_alloc ?_ _)); refine blk_put (cs := #[.slice Ao76 t416.length co76, .slice none 0 0]) ?_ 1 _ rfl; (with_reducible repeat (first | refine blk_drewN ?_ _ | refine blk_drew ?_ | refine blk_alloc ?_ _)); refine blk_put (cs := #[.slice none 0 0, .slice none 0 0]) ?_ 0 _ rfl; (with_reducible repeat (first | refine blk_drewN ?_ _ | refine blk_drew ?_ | refine blk_alloc ?_ _)); exact BK422.out⟩
         have n10_ : Aside0 (Below w.heap.size w ((w75.setCell ⟨gb422, 0, none⟩ (.slice Ao76 t416.length co76)).setCell ⟨gb422, 1, none⟩ (.slice Ao81 t419.length co81))) := ⟨B1_⟩
         (try clear HO_397000)
         (try clear HO_397001)
         (try clear HO_405000)
         (try clear HO_405001)
         (try clear HO418)
         (try clear HO421)
         (try clear BK396)
         (try clear BK404)
         (try clear BK405)
         (try clear BK422)
         (try clear HB)
         generalize ((w75.setCell ⟨gb422, 0, none⟩ (.slice Ao76 t416.length co76)).setCell ⟨gb422, 1, none⟩ (.slice Ao81 t419.length co81)) = w82 at n0_ n1_ n2_ n3_ n4_ n5_ n6_ n7_ n8_ n9_ n10_ ⊢
         have HO_397000 := n0_
         have HO_397001 := n1_
         have HO_405000 := n2_
         have HO_405001 := n3_
         have HO418 := n4_
         have HO421 := n5_
         have BK396 := n6_
         have BK404 := n7_
         have BK405 := n8_
         have BK422 := n9_
         have HB := n10_
         clear n0_ n1_ n2_ n3_ n4_ n5_ n6_ n7_ n8_ n9_ n10_
         have n0_ := Aside0.mk (Kd.S_drew HO_397000.out)
         have n1_ := Aside0.mk (Kd.S_drew HO_397001.out)
         have n2_ := Aside0.mk (Kd.V_drew HO_405000.out)
         have n3_ := Aside0.mk (Kd.S_drew HO_405001.out)
         have n4_ := Aside0.mk (Kd.S_drew HO418.out)
         have n5_ := Aside0.mk (Kd.S_drew HO421.out)
         have n6_ := Aside0.mk (blk_drew BK396.out)
         have n7_ := Aside0.mk (blk_drew BK404.out)
         have n8_ := Aside0.mk (blk_drew BK405.out)
         have n9_ := Aside0.mk (blk_drew BK422.out)
         have n10_ := Aside0.mk (below_drew1 HB.out)
         clear HO_397000
         clear HO_397001
         clear HO_405000
         clear HO_405001
         clear HO418
         clear HO421
         clear BK396
         clear BK404
         clear BK405
         clear BK422
         clear HB
         have HO_397000 := n0_
         have HO_397001 := n1_
         have HO_405000 := n2_
         have HO_405001 := n3_
         have HO418 := n4_
         have HO421 := n5_
         have BK396 := n6_
         have BK404 := n7_
         have BK405 := n8_
         have BK422 := n9_
         have HB := n10_
         clear n0_ n1_ n2_ n3_ n4_ n5_ n6_ n7_ n8_ n9_ n10_
         refine start_ (n := 23) (S := fun w' => w'.cell? ⟨gb396, 0, none⟩ = some (.slice Ao17 t389.length co17) ∧ w'.cell? ⟨gb396, 1, none⟩ = some (.slice Ao19 t392.length co19) ∧ w'.cell? ⟨gb404, 0, none⟩ = some (.slice Ao23 t397.length co23) ∧ w'.cell? ⟨gb404, 1, none⟩ = some (.slice Ao26 t400.length co26) ∧ w'.cell? ⟨gb422, 0, none⟩ = some (.slice Ao76 t416.length co76) ∧ w'.cell? ⟨gb422, 1, none⟩ = some (.slice Ao81 t419.length co81)) (ds := []) #[F_,F_,F_,F_,F_,F_,F_,F_,F_,F_,F_,F_,F_,F_,F_,F_,F_,F_,F_,F_,F_,F_,F_] (by kernel_rfl) rfl rfl ⟨(blk_cell BK396.out 0).trans rfl, (blk_cell BK396.out 1).trans rfl, (blk_cell BK404.out 0).trans rfl, (blk_cell BK404.out 1).trans rfl, (blk_cell BK422.out 0).trans rfl, (blk_cell BK422.out 1).trans rfl⟩ (fun hHeld => ?_); refine with_tabW locksteplaw06_GraphOrders.tab13 locksteplaw06_GraphOrders.bits13 (fun HT_ HW_ => ?_)
         generalize w82.drew = w83 at HO_397000 HO_397001 HO_405000 HO_405001 HO418 HO421 BK396 BK404 BK405 BK422 HB hHeld ⊢
         refine pure_ (i := 1) (N := some 77) (v := ?_) (a' := ?_) #[F_,T_,F_,F_,F_,F_,F_,F_,F_,F_,F_,F_,F_,F_,F_,F_,F_,F_,F_,F_,F_,F_,F_] rfl rfl (any_of HT_.out (by kernel_rfl)) (fun _ _ _ h => h) (Or.inl ⟨by rfl, ?_⟩) ?_ ?_
         rotate_left
         ·intro w'
          go_simp
          with_reducible rfl
         rotate_left
         ·simp only [Act.put, List.setIfInBounds_toArray, List.set_cons_zero, List.set_cons_succ, i64_w, i32_w]
          rfl
         refine pure_ (i := 4) (N := some 80) (v := ?_) (a' := ?_) #[F_,T_,F_,F_,T_,F_,F_,F_,F_,F_,F_,F_,F_,F_,F_,F_,F_,F_,F_,F_,F_,F_,F_] rfl rfl (any_of HT_.out (by kernel_rfl)) (fun _ _ _ h => h) (Or.inl ⟨by rfl, ?_⟩) ?_ ?_
         rotate_left
         ·intro w'
          go_simp
          with_reducible rfl
         rotate_left
         ·simp only [Act.put, List.setIfInBounds_toArray, List.set_cons_zero, List.set_cons_succ, i64_w, i32_w]
          rfl
         refine take_ (i := 0) (N := some 76) (v := ?_) (a' := ?_) #[T_,T_,F_,F_,T_,F_,F_,F_,F_,F_,F_,F_,F_,F_,F_,F_,F_,F_,F_,F_,F_,F_,F_] rfl rfl (take_ofW HT_.out HW_.out (by kernel_rfl)) (fun _ _ _ h => h) (Or.inl ⟨by rfl, ?_⟩) hHeld ?_ ?_
         rotate_left
         ·rintro w' ⟨s0, s1, s2, s3, s4, s5⟩
          go_simp
          with_reducible rfl
         rotate_left
         ·simp only [Act.put, List.setIfInBounds_toArray, List.set_cons_zero, List.set_cons_succ, i64_w, i32_w]
          rfl
         refine take_ (i := 3) (N := some 79) (v := ?_) (a' := ?_) #[T_,T_,F_,T_,T_,F_,F_,F_,F_,F_,F_,F_,F_,F_,F_,F_,F_,F_,F_,F_,F_,F_,F_] rfl rfl (take_ofW HT_.out HW_.out (by kernel_rfl)) (fun _ _ _ h => h) (Or.inl ⟨by rfl, ?_⟩) hHeld ?_ ?_
         rotate_left
         ·rintro w' ⟨s0, s1, s2, s3, s4, s5⟩
          go_simp
          with_reducible rfl
         rotate_left
         ·simp only [Act.put, List.setIfInBounds_toArray, List.set_cons_zero, List.set_cons_succ, i64_w, i32_w]
          rfl
         refine one_ (i := 2) (N := some 78) #[T_,T_,T_,T_,T_,F_,F_,F_,F_,F_,F_,F_,F_,F_,F_,F_,F_,F_,F_,F_,F_,F_,F_] rfl rfl (one_of HT_.out (by kernel_rfl)) (by decide) (fun K hK => ?_)
         refine goes_ Try.func24 (by kernel_rfl) rfl #[.agg #[.slice Ao17 t389.length co17, .slice Ao19 t392.length co19], .int .i64 a2] (by rfl) rfl rfl (by (try simp only [List.map_toArray, List.map_cons, List.map_nil]); first | done | rfl | (simp only [List.length_drop, List.length_take]; rfl)) ?_
         with_reducible refine (graph_Order.calls kj13 _ _ t389 _ _ t392 a2 t423 _ ?side1 ?side2 ?side3 ?side4 A63.out).mono ?_
         (case side1 => repeat (first | exact (Kd.S_reads' HO_397000.out).2.2 | (with_reducible refine Kd.C_alloc ?_ _) | (with_reducible refine Kd.C_drewN ?_ _) | (with_reducible refine Kd.C_drew ?_)))
         (case side2 => exact (Kd.S_reads' HO_397000.out).2.1)
         (case side3 => repeat (first | exact (Kd.S_reads' HO_397001.out).2.2 | (with_reducible refine Kd.C_alloc ?_ _) | (with_reducible refine Kd.C_drewN ?_ _) | (with_reducible refine Kd.C_drew ?_)))
         (case side4 => exact (Kd.S_reads' HO_397001.out).2.1)
         rintro e w84 ⟨v424, rfl, ho0, hb⟩
         refine ⟨_, rfl, ?_⟩
         have n0_ := Aside0.mk (Kd.S_elder' (by (with_reducible repeat (first | apply Kd.S_alloc | apply Kd.S_drewN | apply Kd.S_drew)); exact HO_397000.out) (Kd.R_base ho0) hb)
         have n1_ := Aside0.mk (Kd.S_elder' (by (with_reducible repeat (first | apply Kd.S_alloc | apply Kd.S_drewN | apply Kd.S_drew)); exact HO_397001.out) (Kd.R_base ho0) hb)
         have n2_ := Aside0.mk (Kd.V_elder' (by (with_reducible repeat (first | apply Kd.V_alloc | apply Kd.V_drewN | apply Kd.V_drew)); exact HO_405000.out) (Kd.R_base ho0) hb)
         have n3_ := Aside0.mk (Kd.S_elder' (by (with_reducible repeat (first | apply Kd.S_alloc | apply Kd.S_drewN | apply Kd.S_drew)); exact HO_405001.out) (Kd.R_base ho0) hb)
         have n4_ := Aside0.mk (Kd.S_elder' (by (with_reducible repeat (first | apply Kd.S_alloc | apply Kd.S_drewN | apply Kd.S_drew)); exact HO418.out) (Kd.R_base ho0) hb)
         have n5_ := Aside0.mk (Kd.S_elder' (by (with_reducible repeat (first | apply Kd.S_alloc | apply Kd.S_drewN | apply Kd.S_drew)); exact HO421.out) (Kd.R_base ho0) hb)
         have n6_ := Aside0.mk (Kd.R_lower ho0 (below_size (B1_)))
         have n7_ := Aside0.mk (blk_below (g := gb396) (o := .cells #[.slice Ao17 t389.length co17, .slice Ao19 t392.length co19] 45 (0, 0)) (by (with_reducible repeat (first | refine blk_drewN ?_ _ | refine blk_drew ?_ | refine blk_alloc ?_ _)); exact BK396.out) hb)
         have n8_ := Aside0.mk (blk_below (g := gb404) (o := .cells #[.slice Ao23 t397.length co23, .slice Ao26 t400.length co26] 45 (0, 0)) (by (with_reducible repeat (first | refine blk_drewN ?_ _ | refine blk_drew ?_ | refine blk_alloc ?_ _)); exact BK404.out) hb)
         have n9_ := Aside0.mk (blk_below (g := gb405) (o := .cells #[.slice A0 l0.length c0, .slice A1 l1.length c1] 45 (0, 0)) (by (with_reducible repeat (first | refine blk_drewN ?_ _ | refine blk_drew ?_ | refine blk_alloc ?_ _)); exact BK405.out) hb)
         have n10_ := Aside0.mk (blk_below (g := gb422) (o := .cells #[.slice Ao76 t416.length co76, .slice Ao81 t419.length co81] 45 (0, 0)) (by (with_reducible repeat (first | refine blk_drewN ?_ _ | refine blk_drew ?_ | refine blk_alloc ?_ _)); exact BK422.out) hb)
         have n11_ := Aside0.mk (below_step (B1_) hb)
         clear HO_397000
         clear HO_397001
         clear HO_405000
         clear HO_405001
         clear HO418
         clear HO421
         clear BK396
         clear BK404
         clear BK405
         clear BK422
         clear HB
         have HO_397000 := n0_
         have HO_397001 := n1_
         have HO_405000 := n2_
         have HO_405001 := n3_
         have HO418 := n4_
         have HO421 := n5_
         have HO425 := n6_
         have BK396 := n7_
         have BK404 := n8_
         have BK405 := n9_
         have BK422 := n10_
         have HB := n11_
         clear n0_ n1_ n2_ n3_ n4_ n5_ n6_ n7_ n8_ n9_ n10_ n11_
         (try clear hb)
         (try clear hb2)
         (try clear hk)
         (try clear hi)
         (try clear ho0)
         refine hK.out _ _ ⟨(blk_cell BK396.out 0).trans rfl, (blk_cell BK396.out 1).trans rfl, (blk_cell BK404.out 0).trans rfl, (blk_cell BK404.out 1).trans rfl, (blk_cell BK422.out 0).trans rfl, (blk_cell BK422.out 1).trans rfl⟩ (fun hHeld => ?_)
         clear hK K
         refine norm_ (a' := ?_) ?_ ?_
         rotate_left
         ·show Act.put _ (some 78) _ = _
          simp only [Act.put, List.setIfInBounds_toArray, List.set_cons_zero, List.set_cons_succ, i64_w, i32_w]
          rfl
         refine one_ (i := 5) (N := some 81) #[T_,T_,T_,T_,T_,T_,F_,F_,F_,F_,F_,F_,F_,F_,F_,F_,F_,F_,F_,F_,F_,F_,F_] rfl rfl (one_of HT_.out (by kernel_rfl)) (by decide) (fun K hK => ?_)
         refine goes_ Try.func30 (by kernel_rfl) rfl #[.agg #[.slice Ao23 t397.length co23, .slice Ao26 t400.length co26], .int .i64 a2] (by rfl) rfl rfl (by (try simp only [List.map_toArray, List.map_cons, List.map_nil]); first | done | rfl | (simp only [List.length_drop, List.length_take]; rfl)) ?_
         with_reducible refine (lockstepref06_Order.calls kj13 _ _ t397 _ _ t400 a2 t426 _ ?side1 ?side2 ?side3 ?side4 A64.out).mono ?_
         (case side1 => repeat (first | exact (Kd.V_reads' HO_405000.out).2.2 | (with_reducible refine Kd.C_alloc ?_ _) | (with_reducible refine Kd.C_drewN ?_ _) | (with_reducible refine Kd.C_drew ?_)))
         (case side2 => exact (Kd.V_reads' HO_405000.out).2.1)
         (case side3 => repeat (first | exact (Kd.S_reads' HO_405001.out).2.2 | (with_reducible refine Kd.C_alloc ?_ _) | (with_reducible refine Kd.C_drewN ?_ _) | (with_reducible refine Kd.C_drew ?_)))
         (case side4 => exact (Kd.S_reads' HO_405001.out).2.1)
         rintro e w85 ⟨v427, rfl, ho0, hb⟩
         refine ⟨_, rfl, ?_⟩
         have n0_ := Aside0.mk (Kd.S_elder' (by (with_reducible repeat (first | apply Kd.S_alloc | apply Kd.S_drewN | apply Kd.S_drew)); exact HO_397000.out) (Kd.R_base ho0) hb)
         have n1_ := Aside0.mk (Kd.S_elder' (by (with_reducible repeat (first | apply Kd.S_alloc | apply Kd.S_drewN | apply Kd.S_drew)); exact HO_397001.out) (Kd.R_base ho0) hb)
         have n2_ := Aside0.mk (Kd.V_elder' (by (with_reducible repeat (first | apply Kd.V_alloc | apply Kd.V_drewN | apply Kd.V_drew)); exact HO_405000.out) (Kd.R_base ho0) hb)
         have n3_ := Aside0.mk (Kd.S_elder' (by (with_reducible repeat (first | apply Kd.S_alloc | apply Kd.S_drewN | apply Kd.S_drew)); exact HO_405001.out) (Kd.R_base ho0) hb)
         have n4_ := Aside0.mk (Kd.S_elder' (by (with_reducible repeat (first | apply Kd.S_alloc | apply Kd.S_drewN | apply Kd.S_drew)); exact HO418.out) (Kd.R_base ho0) hb)
         have n5_ := Aside0.mk (Kd.S_elder' (by (with_reducible repeat (first | apply Kd.S_alloc | apply Kd.S_drewN | apply Kd.S_drew)); exact HO421.out) (Kd.R_base ho0) hb)
         have n6_ := Aside0.mk (Kd.R_elder' (by (with_reducible repeat (first | apply Kd.R_alloc | apply Kd.R_drewN | apply Kd.R_drew)); exact HO425.out) (Kd.R_base ho0) hb)
         have n7_ := Aside0.mk (Kd.R_lower (Kd.R_new' ho0 (Kd.R_lt (by (with_reducible repeat (first | apply Kd.R_alloc | apply Kd.R_drewN | apply Kd.R_drew)); exact HO425.out))) (below_size (B1_)))
         have n8_ := Aside0.mk (blk_below (g := gb396) (o := .cells #[.slice Ao17 t389.length co17, .slice Ao19 t392.length co19] 45 (0, 0)) (by (with_reducible repeat (first | refine blk_drewN ?_ _ | refine blk_drew ?_ | refine blk_alloc ?_ _)); exact BK396.out) hb)
         have n9_ := Aside0.mk (blk_below (g := gb404) (o := .cells #[.slice Ao23 t397.length co23, .slice Ao26 t400.length co26] 45 (0, 0)) (by (with_reducible repeat (first | refine blk_drewN ?_ _ | refine blk_drew ?_ | refine blk_alloc ?_ _)); exact BK404.out) hb)
         have n10_ := Aside0.mk (blk_below (g := gb405) (o := .cells #[.slice A0 l0.length c0, .slice A1 l1.length c1] 45 (0, 0)) (by (with_reducible repeat (first | refine blk_drewN ?_ _ | refine blk_drew ?_ | refine blk_alloc ?_ _)); exact BK405.out) hb)
         have n11_ := Aside0.mk (blk_below (g := gb422) (o := .cells #[.slice Ao76 t416.length co76, .slice Ao81 t419.length co81] 45 (0, 0)) (by (with_reducible repeat (first | refine blk_drewN ?_ _ | refine blk_drew ?_ | refine blk_alloc ?_ _)); exact BK422.out) hb)
         have n12_ := Aside0.mk (below_step (B1_) hb)
         clear HO_397000
         clear HO_397001
         clear HO_405000
         clear HO_405001
         clear HO418
         clear HO421
         clear HO425
         clear BK396
         clear BK404
         clear BK405
         clear BK422
         clear HB
         have HO_397000 := n0_
         have HO_397001 := n1_
         have HO_405000 := n2_
         have HO_405001 := n3_
         have HO418 := n4_
         have HO421 := n5_
         have HO425 := n6_
         have HO428 := n7_
         have BK396 := n8_
         have BK404 := n9_
         have BK405 := n10_
         have BK422 := n11_
         have HB := n12_
         clear n0_ n1_ n2_ n3_ n4_ n5_ n6_ n7_ n8_ n9_ n10_ n11_ n12_
         (try clear hb)
         (try clear hb2)
         (try clear hk)
         (try clear hi)
         (try clear ho0)
         obtain ⟨Ao86, co86, eo86⟩ := Kd.R_slice HO425.out
         (first | subst eo86 | (injection eo86 with f1_ f2_ f3_; have f4_ := f1_.symm; have f5_ := f3_.symm; clear f1_ f2_ f3_; subst f4_; subst f5_))
         obtain ⟨Ao87, co87, eo87⟩ := Kd.R_slice HO428.out
         (first | subst eo87 | (injection eo87 with f1_ f2_ f3_; have f4_ := f1_.symm; have f5_ := f3_.symm; clear f1_ f2_ f3_; subst f4_; subst f5_))
         refine hK.out _ _ ⟨(blk_cell BK396.out 0).trans rfl, (blk_cell BK396.out 1).trans rfl, (blk_cell BK404.out 0).trans rfl, (blk_cell BK404.out 1).trans rfl, (blk_cell BK422.out 0).trans rfl, (blk_cell BK422.out 1).trans rfl⟩ (fun hHeld => ?_)
         clear hK K
         refine norm_ (a' := ?_) ?_ ?_
         rotate_left
         ·show Act.put _ (some 81) _ = _
          simp only [Act.put, List.setIfInBounds_toArray, List.set_cons_zero, List.set_cons_succ, i64_w, i32_w]
          rfl
         refine one_ (i := 6) (N := some 82) #[T_,T_,T_,T_,T_,T_,T_,F_,F_,F_,F_,F_,F_,F_,F_,F_,F_,F_,F_,F_,F_,F_,F_] rfl rfl (one_of HT_.out (by kernel_rfl)) (by decide) (fun K hK => ?_)
         refine goes_ Try.func20 (by kernel_rfl) rfl #[.slice Ao86 t423.length co86, .slice Ao87 t426.length co87] (by rfl) rfl rfl (by (try simp only [List.map_toArray, List.map_cons, List.map_nil]); first | done | rfl | (simp only [List.length_drop, List.length_take]; rfl)) ?_
         with_reducible refine (lockstepref02_Ints.calls kj13 _ _ t423 _ _ t426 true _ ?side1 ?side2 ?side3 ?side4 A65.out).mono ?_
         (case side1 => repeat (first | exact (Kd.R_reads' HO425.out).2.2 | (with_reducible refine Kd.C_alloc ?_ _) | (with_reducible refine Kd.C_drewN ?_ _) | (with_reducible refine Kd.C_drew ?_)))
         (case side2 => exact (Kd.R_reads' HO425.out).2.1)
         (case side3 => repeat (first | exact (Kd.R_reads' HO428.out).2.2 | (with_reducible refine Kd.C_alloc ?_ _) | (with_reducible refine Kd.C_drewN ?_ _) | (with_reducible refine Kd.C_drew ?_)))
         (case side4 => exact (Kd.R_reads' HO428.out).2.1)
         rintro e w' ⟨rfl, ⟨nd, rfl⟩⟩
         refine ⟨_, rfl, ?_⟩
         refine hK.out _ _ ⟨(blk_cell BK396.out 0).trans rfl, (blk_cell BK396.out 1).trans rfl, (blk_cell BK404.out 0).trans rfl, (blk_cell BK404.out 1).trans rfl, (blk_cell BK422.out 0).trans rfl, (blk_cell BK422.out 1).trans rfl⟩ (fun hHeld => ?_)
         clear hK K
         refine norm_ (a' := ?_) ?_ ?_
         rotate_left
         ·show Act.put _ (some 82) _ = _
          simp only [Act.put, List.setIfInBounds_toArray, List.set_cons_zero, List.set_cons_succ, i64_w, i32_w]
          rfl
         refine pure_ (i := 7) (N := some 83) (v := ?_) (a' := ?_) #[T_,T_,T_,T_,T_,T_,T_,T_,F_,F_,F_,F_,F_,F_,F_,F_,F_,F_,F_,F_,F_,F_,F_] rfl rfl (any_of HT_.out (by kernel_rfl)) (fun _ _ _ h => h) (Or.inl ⟨by rfl, ?_⟩) ?_ ?_
         rotate_left
         ·intro w'
          go_simp
          with_reducible rfl
         rotate_left
         ·simp only [Act.put, List.setIfInBounds_toArray, List.set_cons_zero, List.set_cons_succ, i64_w, i32_w]
          rfl
         refine pure_ (i := 9) (N := some 85) (v := ?_) (a' := ?_) #[T_,T_,T_,T_,T_,T_,T_,T_,F_,T_,F_,F_,F_,F_,F_,F_,F_,F_,F_,F_,F_,F_,F_] rfl rfl (any_of HT_.out (by kernel_rfl)) (fun _ _ _ h => h) (Or.inl ⟨by rfl, ?_⟩) ?_ ?_
         rotate_left
         ·intro w'
          go_simp
          with_reducible rfl
         rotate_left
         ·simp only [Act.put, List.setIfInBounds_toArray, List.set_cons_zero, List.set_cons_succ, i64_w, i32_w]
          rfl
         refine pure_ (i := 11) (N := some 87) (v := ?_) (a' := ?_) #[T_,T_,T_,T_,T_,T_,T_,T_,F_,T_,F_,T_,F_,F_,F_,F_,F_,F_,F_,F_,F_,F_,F_] rfl rfl (any_of HT_.out (by kernel_rfl)) (fun _ _ _ h => h) (Or.inl ⟨by rfl, ?_⟩) ?_ ?_
         rotate_left
         ·intro w'
          go_simp
          with_reducible rfl
         rotate_left
         ·simp only [Act.put, List.setIfInBounds_toArray, List.set_cons_zero, List.set_cons_succ, i64_w, i32_w]
          rfl
         refine take_ (i := 8) (N := some 84) (v := ?_) (a' := ?_) #[T_,T_,T_,T_,T_,T_,T_,T_,T_,T_,F_,T_,F_,F_,F_,F_,F_,F_,F_,F_,F_,F_,F_] rfl rfl (take_ofW HT_.out HW_.out (by kernel_rfl)) (fun _ _ _ h => h) (Or.inl ⟨by rfl, ?_⟩) hHeld ?_ ?_
         rotate_left
         ·rintro w' ⟨s0, s1, s2, s3, s4, s5⟩
          go_simp
          with_reducible rfl
         rotate_left
         ·simp only [Act.put, List.setIfInBounds_toArray, List.set_cons_zero, List.set_cons_succ, i64_w, i32_w]
          rfl
         refine take_ (i := 10) (N := some 86) (v := ?_) (a' := ?_) #[T_,T_,T_,T_,T_,T_,T_,T_,T_,T_,T_,T_,F_,F_,F_,F_,F_,F_,F_,F_,F_,F_,F_] rfl rfl (take_ofW HT_.out HW_.out (by kernel_rfl)) (fun _ _ _ h => h) (Or.inl ⟨by rfl, ?_⟩) hHeld ?_ ?_
         rotate_left
         ·rintro w' ⟨s0, s1, s2, s3, s4, s5⟩
          go_simp
          with_reducible rfl
         rotate_left
         ·simp only [Act.put, List.setIfInBounds_toArray, List.set_cons_zero, List.set_cons_succ, i64_w, i32_w]
          rfl
         refine take_ (i := 12) (N := some 88) (v := ?_) (a' := ?_) #[T_,T_,T_,T_,T_,T_,T_,T_,T_,T_,T_,T_,T_,F_,F_,F_,F_,F_,F_,F_,F_,F_,F_] rfl rfl (take_ofW HT_.out HW_.out (by kernel_rfl)) (fun _ _ _ h => h) (Or.inl ⟨by rfl, ?_⟩) hHeld ?_ ?_
         rotate_left
         ·rintro w' ⟨s0, s1, s2, s3, s4, s5⟩
          go_simp
          with_reducible rfl
         rotate_left
         ·simp only [Act.put, List.setIfInBounds_toArray, List.set_cons_zero, List.set_cons_succ, i64_w, i32_w]
          rfl
         refine pure_ (i := 13) (N := some 89) (v := ?_) (a' := ?_) #[T_,T_,T_,T_,T_,T_,T_,T_,T_,T_,T_,T_,T_,T_,F_,F_,F_,F_,F_,F_,F_,F_,F_] rfl rfl (any_of HT_.out (by kernel_rfl)) (fun _ _ _ h => h) (Or.inl ⟨by rfl, ?_⟩) ?_ ?_
         rotate_left
         ·intro w'
          go_simp
          with_reducible rfl
         rotate_left
         ·simp only [Act.put, List.setIfInBounds_toArray, List.set_cons_zero, List.set_cons_succ, i64_w, i32_w]
          rfl
         refine one_ (i := 14) (N := some 90) #[T_,T_,T_,T_,T_,T_,T_,T_,T_,T_,T_,T_,T_,T_,T_,F_,F_,F_,F_,F_,F_,F_,F_] rfl rfl (one_of HT_.out (by kernel_rfl)) (by decide) (fun K hK => ?_)
         refine goes_ Try.func28 (by kernel_rfl) rfl #[.agg #[.slice Ao76 t416.length co76, .slice Ao81 t419.length co81], .agg #[.slice Ao26 t400.length co26, .slice Ao23 t397.length co23]] (by rfl) rfl rfl (by (try simp only [List.map_toArray, List.map_cons, List.map_nil]); first | done | rfl | (simp only [List.length_drop, List.length_take]; rfl)) ?_
         with_reducible refine (lockstepref06_Same.calls kj13 _ _ t416 _ _ t419 _ _ t400 _ _ t397 true _ ?side1 ?side2 ?side3 ?side4 ?side5 ?side6 ?side7 ?side8 A67.out).mono ?_
         (case side1 => repeat (first | exact (Kd.S_reads' HO418.out).2.2 | (with_reducible refine Kd.C_alloc ?_ _) | (with_reducible refine Kd.C_drewN ?_ _) | (with_reducible refine Kd.C_drew ?_)))
         (case side2 => exact (Kd.S_reads' HO418.out).2.1)
         (case side3 => repeat (first | exact (Kd.S_reads' HO421.out).2.2 | (with_reducible refine Kd.C_alloc ?_ _) | (with_reducible refine Kd.C_drewN ?_ _) | (with_reducible refine Kd.C_drew ?_)))
         (case side4 => exact (Kd.S_reads' HO421.out).2.1)
         (case side5 => repeat (first | exact (Kd.S_reads' HO_405001.out).2.2 | (with_reducible refine Kd.C_alloc ?_ _) | (with_reducible refine Kd.C_drewN ?_ _) | (with_reducible refine Kd.C_drew ?_)))
         (case side6 => exact (Kd.S_reads' HO_405001.out).2.1)
         (case side7 => repeat (first | exact (Kd.V_reads' HO_405000.out).2.2 | (with_reducible refine Kd.C_alloc ?_ _) | (with_reducible refine Kd.C_drewN ?_ _) | (with_reducible refine Kd.C_drew ?_)))
         (case side8 => exact (Kd.V_reads' HO_405000.out).2.1)
         rintro e w88 ⟨rfl, hb⟩
         refine ⟨_, rfl, ?_⟩
         have n0_ := Aside0.mk (Kd.S_below (by (with_reducible repeat (first | apply Kd.S_alloc | apply Kd.S_drewN | apply Kd.S_drew)); exact HO_397000.out) hb)
         have n1_ := Aside0.mk (Kd.S_below (by (with_reducible repeat (first | apply Kd.S_alloc | apply Kd.S_drewN | apply Kd.S_drew)); exact HO_397001.out) hb)
         have n2_ := Aside0.mk (Kd.V_below (by (with_reducible repeat (first | apply Kd.V_alloc | apply Kd.V_drewN | apply Kd.V_drew)); exact HO_405000.out) hb)
         have n3_ := Aside0.mk (Kd.S_below (by (with_reducible repeat (first | apply Kd.S_alloc | apply Kd.S_drewN | apply Kd.S_drew)); exact HO_405001.out) hb)
         have n4_ := Aside0.mk (Kd.S_below (by (with_reducible repeat (first | apply Kd.S_alloc | apply Kd.S_drewN | apply Kd.S_drew)); exact HO418.out) hb)
         have n5_ := Aside0.mk (Kd.S_below (by (with_reducible repeat (first | apply Kd.S_alloc | apply Kd.S_drewN | apply Kd.S_drew)); exact HO421.out) hb)
         have n6_ := Aside0.mk (Kd.R_below (by (with_reducible repeat (first | apply Kd.R_alloc | apply Kd.R_drewN | apply Kd.R_drew)); exact HO425.out) hb)
         have n7_ := Aside0.mk (Kd.R_below (by (with_reducible repeat (first | apply Kd.R_alloc | apply Kd.R_drewN | apply Kd.R_drew)); exact HO428.out) hb)
         have n8_ := Aside0.mk (blk_below (g := gb396) (o := .cells #[.slice Ao17 t389.length co17, .slice Ao19 t392.length co19] 45 (0, 0)) (by (with_reducible repeat (first | refine blk_drewN ?_ _ | refine blk_drew ?_ | refine blk_alloc ?_ _)); exact BK396.out) hb)
         have n9_ := Aside0.mk (blk_below (g := gb404) (o := .cells #[.slice Ao23 t397.length co23, .slice Ao26 t400.length co26] 45 (0, 0)) (by (with_reducible repeat (first | refine blk_drewN ?_ _ | refine blk_drew ?_ | refine blk_alloc ?_ _)); exact BK404.out) hb)
         have n10_ := Aside0.mk (blk_below (g := gb405) (o := .cells #[.slice A0 l0.length c0, .slice A1 l1.length c1] 45 (0, 0)) (by (with_reducible repeat (first | refine blk_drewN ?_ _ | refine blk_drew ?_ | refine blk_alloc ?_ _)); exact BK405.out) hb)
         have n11_ := Aside0.mk (blk_below (g := gb422) (o := .cells #[.slice Ao76 t416.length co76, .slice Ao81 t419.length co81] 45 (0, 0)) (by (with_reducible repeat (first | refine blk_drewN ?_ _ | refine blk_drew ?_ | refine blk_alloc ?_ _)); exact BK422.out) hb)
         have n12_ := Aside0.mk (below_step (B1_) hb)
         clear HO_397000
         clear HO_397001
         clear HO_405000
         clear HO_405001
         clear HO418
         clear HO421
         clear HO425
         clear HO428
         clear BK396
         clear BK404
         clear BK405
         clear BK422
         clear HB
         have HO_397000 := n0_
         have HO_397001 := n1_
         have HO_405000 := n2_
         have HO_405001 := n3_
         have HO418 := n4_
         have HO421 := n5_
         have HO425 := n6_
         have HO428 := n7_
         have BK396 := n8_
         have BK404 := n9_
         have BK405 := n10_
         have BK422 := n11_
         have HB := n12_
         clear n0_ n1_ n2_ n3_ n4_ n5_ n6_ n7_ n8_ n9_ n10_ n11_ n12_
         (try clear hb)
         (try clear hb2)
         (try clear hk)
         (try clear hi)
         refine hK.out _ _ ⟨(blk_cell BK396.out 0).trans rfl, (blk_cell BK396.out 1).trans rfl, (blk_cell BK404.out 0).trans rfl, (blk_cell BK404.out 1).trans rfl, (blk_cell BK422.out 0).trans rfl, (blk_cell BK422.out 1).trans rfl⟩ (fun hHeld => ?_)
         clear hK K
         refine norm_ (a' := ?_) ?_ ?_
         rotate_left
         ·show Act.put _ (some 90) _ = _
          simp only [Act.put, List.setIfInBounds_toArray, List.set_cons_zero, List.set_cons_succ, i64_w, i32_w]
          rfl
         refine pure_ (i := 15) (N := some 91) (v := ?_) (a' := ?_) #[T_,T_,T_,T_,T_,T_,T_,T_,T_,T_,T_,T_,T_,T_,T_,T_,F_,F_,F_,F_,F_,F_,F_] rfl rfl (any_of HT_.out (by kernel_rfl)) (fun _ _ _ h => h) (Or.inl ⟨by rfl, ?_⟩) ?_ ?_
         rotate_left
         ·intro w'
          go_simp
          with_reducible rfl
         rotate_left
         ·simp only [Act.put, List.setIfInBounds_toArray, List.set_cons_zero, List.set_cons_succ, i64_w, i32_w]
          rfl
         refine pure_ (i := 16) (N := some 92) (v := ?_) (a' := ?_) #[T_,T_,T_,T_,T_,T_,T_,T_,T_,T_,T_,T_,T_,T_,T_,T_,T_,F_,F_,F_,F_,F_,F_] rfl rfl (any_of HT_.out (by kernel_rfl)) (fun _ _ _ h => h) (Or.inl ⟨by rfl, ?_⟩) ?_ ?_
         rotate_left
         ·intro w'
          go_simp
          with_reducible rfl
         rotate_left
         ·simp only [Act.put, List.setIfInBounds_toArray, List.set_cons_zero, List.set_cons_succ, i64_w, i32_w]
          rfl
         refine take_ (i := 17) (N := some 93) (v := ?_) (a' := ?_) #[T_,T_,T_,T_,T_,T_,T_,T_,T_,T_,T_,T_,T_,T_,T_,T_,T_,T_,F_,F_,F_,F_,F_] rfl rfl (take_ofW HT_.out HW_.out (by kernel_rfl)) (fun _ _ _ h => h) (Or.inl ⟨by rfl, ?_⟩) hHeld ?_ ?_
         rotate_left
         ·rintro w' ⟨s0, s1, s2, s3, s4, s5⟩
          go_simp
          with_reducible rfl
         rotate_left
         ·simp only [Act.put, List.setIfInBounds_toArray, List.set_cons_zero, List.set_cons_succ, i64_w, i32_w]
          rfl
         refine take_ (i := 19) (N := some 95) (v := ?_) (a' := ?_) #[T_,T_,T_,T_,T_,T_,T_,T_,T_,T_,T_,T_,T_,T_,T_,T_,T_,T_,F_,T_,F_,F_,F_] rfl rfl (take_ofW HT_.out HW_.out (by kernel_rfl)) (fun _ _ _ h => h) (Or.inl ⟨by rfl, ?_⟩) hHeld ?_ ?_
         rotate_left
         ·rintro w' ⟨s0, s1, s2, s3, s4, s5⟩
          go_simp
          with_reducible rfl
         rotate_left
         ·simp only [Act.put, List.setIfInBounds_toArray, List.set_cons_zero, List.set_cons_succ, i64_w, i32_w]
          rfl
         refine one_ (i := 18) (N := some 94) #[T_,T_,T_,T_,T_,T_,T_,T_,T_,T_,T_,T_,T_,T_,T_,T_,T_,T_,T_,T_,F_,F_,F_] rfl rfl (one_of HT_.out (by kernel_rfl)) (by decide) (fun K hK => ?_)
         refine goes_ Try.func31 (by kernel_rfl) rfl #[.agg #[.slice Ao76 t416.length co76, .slice Ao81 t419.length co81]] (by rfl) rfl rfl (by (try simp only [List.map_toArray, List.map_cons, List.map_nil]); first | done | rfl | (simp only [List.length_drop, List.length_take]; rfl)) ?_
         with_reducible refine (graph_Turned.calls kj13 _ _ t416 _ _ t419 t431 t434 _ ?side1 ?side2 ?side3 ?side4 A69.out).mono ?_
         (case side1 => repeat (first | exact (Kd.S_reads' HO418.out).2.2 | (with_reducible refine Kd.C_alloc ?_ _) | (with_reducible refine Kd.C_drewN ?_ _) | (with_reducible refine Kd.C_drew ?_)))
         (case side2 => exact (Kd.S_reads' HO418.out).2.1)
         (case side3 => repeat (first | exact (Kd.S_reads' HO421.out).2.2 | (with_reducible refine Kd.C_alloc ?_ _) | (with_reducible refine Kd.C_drewN ?_ _) | (with_reducible refine Kd.C_drew ?_)))
         (case side4 => exact (Kd.S_reads' HO421.out).2.1)
         rintro e w89 ⟨v432, v435, rfl, ho0, ho1, hb⟩
         refine ⟨_, rfl, ?_⟩
         have n0_ := Aside0.mk (Kd.S_mono (Kd.S_told (Kd.S_told (Kd.S_old (by (with_reducible repeat (first | apply Kd.S_alloc | apply Kd.S_drewN | apply Kd.S_drew)); exact HO_397000.out) hb) (Kd.S_base ho0)) (Kd.S_base ho1)) (fun _ h_ => h_.1))
         have n1_ := Aside0.mk (Kd.S_mono (Kd.S_told (Kd.S_told (Kd.S_old (by (with_reducible repeat (first | apply Kd.S_alloc | apply Kd.S_drewN | apply Kd.S_drew)); exact HO_397001.out) hb) (Kd.S_base ho0)) (Kd.S_base ho1)) (fun _ h_ => h_.1))
         have n2_ := Aside0.mk (Kd.V_mono (Kd.V_told (Kd.V_told (Kd.V_old (by (with_reducible repeat (first | apply Kd.V_alloc | apply Kd.V_drewN | apply Kd.V_drew)); exact HO_405000.out) hb) (Kd.S_base ho0)) (Kd.S_base ho1)) (fun _ h_ => h_.1))
         have n3_ := Aside0.mk (Kd.S_mono (Kd.S_told (Kd.S_told (Kd.S_old (by (with_reducible repeat (first | apply Kd.S_alloc | apply Kd.S_drewN | apply Kd.S_drew)); exact HO_405001.out) hb) (Kd.S_base ho0)) (Kd.S_base ho1)) (fun _ h_ => h_.1))
         have n4_ := Aside0.mk (Kd.S_mono (Kd.S_told (Kd.S_told (Kd.S_old (by (with_reducible repeat (first | apply Kd.S_alloc | apply Kd.S_drewN | apply Kd.S_drew)); exact HO418.out) hb) (Kd.S_base ho0)) (Kd.S_base ho1)) (fun _ h_ => h_.1))
         have n5_ := Aside0.mk (Kd.S_mono (Kd.S_told (Kd.S_told (Kd.S_old (by (with_reducible repeat (first | apply Kd.S_alloc | apply Kd.S_drewN | apply Kd.S_drew)); exact HO421.out) hb) (Kd.S_base ho0)) (Kd.S_base ho1)) (fun _ h_ => h_.1))
         have n6_ := Aside0.mk (Kd.R_below (by (with_reducible repeat (first | apply Kd.R_alloc | apply Kd.R_drewN | apply Kd.R_drew)); exact HO425.out) hb)
         have n7_ := Aside0.mk (Kd.R_below (by (with_reducible repeat (first | apply Kd.R_alloc | apply Kd.R_drewN | apply Kd.R_drew)); exact HO428.out) hb)
         have n8_ := Aside0.mk (Kd.S_lower (Kd.S_new' (Kd.S_new' (Kd.S_new' (Kd.S_new' (Kd.S_new' (Kd.S_new' (Kd.S_new' ho0 (Kd.S_lt (by (with_reducible repeat (first | apply Kd.S_alloc | apply Kd.S_drewN | apply Kd.S_drew)); exact HO_397000.out))) (Kd.S_lt (by (with_reducible repeat (first | apply Kd.S_alloc | apply Kd.S_drewN | apply Kd.S_drew)); exact HO_397001.out))) (Kd.S_lt (by (with_reducible repeat (first | apply Kd.S_alloc | apply Kd.S_drewN | apply Kd.S_drew)); exact HO_405001.out))) (Kd.S_lt (by (with_reducible repeat (first | apply Kd.S_alloc | apply Kd.S_drewN | apply Kd.S_drew)); exact HO418.out))) (Kd.S_lt (by (with_reducible repeat (first | apply Kd.S_alloc | apply Kd.S_drewN | apply Kd.S_drew)); exact HO421.out))) (Kd.R_lt (by (with_reducible repeat (first | apply Kd.R_alloc | apply Kd.R_drewN | apply Kd.R_drew)); exact HO425.out))) (Kd.R_lt (by (with_reducible repeat (first | apply Kd.R_alloc | apply Kd.R_drewN | apply Kd.R_drew)); exact HO428.out))) (below_size (B1_)))
         have n9_ := Aside0.mk (Kd.S_lower (Kd.S_new' (Kd.S_new' (Kd.S_new' (Kd.S_new' (Kd.S_new' (Kd.S_new' (Kd.S_new' ho1 (Kd.S_lt (by (with_reducible repeat (first | apply Kd.S_alloc | apply Kd.S_drewN | apply Kd.S_drew)); exact HO_397000.out))) (Kd.S_lt (by (with_reducible repeat (first | apply Kd.S_alloc | apply Kd.S_drewN | apply Kd.S_drew)); exact HO_397001.out))) (Kd.S_lt (by (with_reducible repeat (first | apply Kd.S_alloc | apply Kd.S_drewN | apply Kd.S_drew)); exact HO_405001.out))) (Kd.S_lt (by (with_reducible repeat (first | apply Kd.S_alloc | apply Kd.S_drewN | apply Kd.S_drew)); exact HO418.out))) (Kd.S_lt (by (with_reducible repeat (first | apply Kd.S_alloc | apply Kd.S_drewN | apply Kd.S_drew)); exact HO421.out))) (Kd.R_lt (by (with_reducible repeat (first | apply Kd.R_alloc | apply Kd.R_drewN | apply Kd.R_drew)); exact HO425.out))) (Kd.R_lt (by (with_reducible repeat (first | apply Kd.R_alloc | apply Kd.R_drewN | apply Kd.R_drew)); exact HO428.out))) (below_size (B1_)))
         have n10_ := Aside0.mk (blk_below (g := gb396) (o := .cells #[.slice Ao17 t389.length co17, .slice Ao19 t392.length co19] 45 (0, 0)) (by (with_reducible repeat (first | refine blk_drewN ?_ _ | refine blk_drew ?_ | refine blk_alloc ?_ _)); exact BK396.out) hb)
         have n11_ := Aside0.mk (blk_below (g := gb404) (o := .cells #[.slice Ao23 t397.length co23, .slice Ao26 t400.length co26] 45 (0, 0)) (by (with_reducible repeat (first | refine blk_drewN ?_ _ | refine blk_drew ?_ | refine blk_alloc ?_ _)); exact BK404.out) hb)
         have n12_ := Aside0.mk (blk_below (g := gb405) (o := .cells #[.slice A0 l0.length c0, .slice A1 l1.length c1] 45 (0, 0)) (by (with_reducible repeat (first | refine blk_drewN ?_ _ | refine blk_drew ?_ | refine blk_alloc ?_ _)); exact BK405.out) hb)
         have n13_ := Aside0.mk (blk_below (g := gb422) (o := .cells #[.slice Ao76 t416.length co76, .slice Ao81 t419.length co81] 45 (0, 0)) (by (with_reducible repeat (first | refine blk_drewN ?_ _ | refine blk_drew ?_ | refine blk_alloc ?_ _)); exact BK422.out) hb)
         have n14_ := Aside0.mk (below_step (B1_) hb)
         clear HO_397000
         clear HO_397001
         clear HO_405000
         clear HO_405001
         clear HO418
         clear HO421
         clear HO425
         clear HO428
         clear BK396
         clear BK404
         clear BK405
         clear BK422
         clear HB
         have HO_397000 := n0_
         have HO_397001 := n1_
         have HO_405000 := n2_
         have HO_405001 := n3_
         have HO418 := n4_
         have HO421 := n5_
         have HO425 := n6_
         have HO428 := n7_
         have HO433 := n8_
         have HO436 := n9_
         have BK396 := n10_
         have BK404 := n11_
         have BK405 := n12_
         have BK422 := n13_
         have HB := n14_
         clear n0_ n1_ n2_ n3_ n4_ n5_ n6_ n7_ n8_ n9_ n10_ n11_ n12_ n13_ n14_
         (try clear hb)
         (try clear hb2)
         (try clear hk)
         (try clear hi)
         (try clear ho0)
         (try clear ho1)
         obtain ⟨Ao90, co90, eo90⟩ := Kd.S_slice HO433.out
         (first | subst eo90 | (injection eo90 with f1_ f2_ f3_; have f4_ := f1_.symm; have f5_ := f3_.symm; clear f1_ f2_ f3_; subst f4_; subst f5_))
         obtain ⟨Ao91, co91, eo91⟩ := Kd.S_slice HO436.out
         (first | subst eo91 | (injection eo91 with f1_ f2_ f3_; have f4_ := f1_.symm; have f5_ := f3_.symm; clear f1_ f2_ f3_; subst f4_; subst f5_))
         refine hK.out _ _ ⟨(blk_cell BK396.out 0).trans rfl, (blk_cell BK396.out 1).trans rfl, (blk_cell BK404.out 0).trans rfl, (blk_cell BK404.out 1).trans rfl, (blk_cell BK422.out 0).trans rfl, (blk_cell BK422.out 1).trans rfl⟩ (fun hHeld => ?_)
         clear hK K
         refine norm_ (a' := ?_) ?_ ?_
         rotate_left
         ·show Act.put _ (some 94) _ = _
          simp only [Act.put, List.setIfInBounds_toArray, List.set_cons_zero, List.set_cons_succ, i64_w, i32_w]
          rfl
         refine one_ (i := 20) (N := some 96) #[T_,T_,T_,T_,T_,T_,T_,T_,T_,T_,T_,T_,T_,T_,T_,T_,T_,T_,T_,T_,T_,F_,F_] rfl rfl (one_of HT_.out (by kernel_rfl)) (by decide) (fun K hK => ?_)
         refine goes_ Try.func28 (by kernel_rfl) rfl #[.agg #[.slice Ao90 t431.length co90, .slice Ao91 t434.length co91], .agg #[.slice Ao23 t397.length co23, .slice Ao26 t400.length co26]] (by rfl) rfl rfl (by (try simp only [List.map_toArray, List.map_cons, List.map_nil]); first | done | rfl | (simp only [List.length_drop, List.length_take]; rfl)) ?_
         with_reducible refine (lockstepref06_Same.calls kj13 _ _ t431 _ _ t434 _ _ t397 _ _ t400 t437 _ ?side1 ?side2 ?side3 ?side4 ?side5 ?side6 ?side7 ?side8 A70.out).mono ?_
         (case side1 => repeat (first | exact (Kd.S_reads' HO433.out).2.2 | (with_reducible refine Kd.C_alloc ?_ _) | (with_reducible refine Kd.C_drewN ?_ _) | (with_reducible refine Kd.C_drew ?_)))
         (case side2 => exact (Kd.S_reads' HO433.out).2.1)
         (case side3 => repeat (first | exact (Kd.S_reads' HO436.out).2.2 | (with_reducible refine Kd.C_alloc ?_ _) | (with_reducible refine Kd.C_drewN ?_ _) | (with_reducible refine Kd.C_drew ?_)))
         (case side4 => exact (Kd.S_reads' HO436.out).2.1)
         (case side5 => repeat (first | exact (Kd.V_reads' HO_405000.out).2.2 | (with_reducible refine Kd.C_alloc ?_ _) | (with_reducible refine Kd.C_drewN ?_ _) | (with_reducible refine Kd.C_drew ?_)))
         (case side6 => exact (Kd.V_reads' HO_405000.out).2.1)
         (case side7 => repeat (first | exact (Kd.S_reads' HO_405001.out).2.2 | (with_reducible refine Kd.C_alloc ?_ _) | (with_reducible refine Kd.C_drewN ?_ _) | (with_reducible refine Kd.C_drew ?_)))
         (case side8 => exact (Kd.S_reads' HO_405001.out).2.1)
         rintro e w92 ⟨rfl, hb⟩
         refine ⟨_, rfl, ?_⟩
         have n0_ := Aside0.mk (Kd.S_below (by (with_reducible repeat (first | apply Kd.S_alloc | apply Kd.S_drewN | apply Kd.S_drew)); exact HO_397000.out) hb)
         have n1_ := Aside0.mk (Kd.S_below (by (with_reducible repeat (first | apply Kd.S_alloc | apply Kd.S_drewN | apply Kd.S_drew)); exact HO_397001.out) hb)
         have n2_ := Aside0.mk (Kd.V_below (by (with_reducible repeat (first | apply Kd.V_alloc | apply Kd.V_drewN | apply Kd.V_drew)); exact HO_405000.out) hb)
         have n3_ := Aside0.mk (Kd.S_below (by (with_reducible repeat (first | apply Kd.S_alloc | apply Kd.S_drewN | apply Kd.S_drew)); exact HO_405001.out) hb)
         have n4_ := Aside0.mk (Kd.S_below (by (with_reducible repeat (first | apply Kd.S_alloc | apply Kd.S_drewN | apply Kd.S_drew)); exact HO418.out) hb)
         have n5_ := Aside0.mk (Kd.S_below (by (with_reducible repeat (first | apply Kd.S_alloc | apply Kd.S_drewN | apply Kd.S_drew)); exact HO421.out) hb)
         have n6_ := Aside0.mk (Kd.R_below (by (with_reducible repeat (first | apply Kd.R_alloc | apply Kd.R_drewN | apply Kd.R_drew)); exact HO425.out) hb)
         have n7_ := Aside0.mk (Kd.R_below (by (with_reducible repeat (first | apply Kd.R_alloc | apply Kd.R_drewN | apply Kd.R_drew)); exact HO428.out) hb)
         have n8_ := Aside0.mk (Kd.S_below (by (with_reducible repeat (first | apply Kd.S_alloc | apply Kd.S_drewN | apply Kd.S_drew)); exact HO433.out) hb)
         have n9_ := Aside0.mk (Kd.S_below (by (with_reducible repeat (first | apply Kd.S_alloc | apply Kd.S_drewN | apply Kd.S_drew)); exact HO436.out) hb)
         have n10_ := Aside0.mk (blk_below (g := gb396) (o := .cells #[.slice Ao17 t389.length co17, .slice Ao19 t392.length co19] 45 (0, 0)) (by (with_reducible repeat (first | refine blk_drewN ?_ _ | refine blk_drew ?_ | refine blk_alloc ?_ _)); exact BK396.out) hb)
         have n11_ := Aside0.mk (blk_below (g := gb404) (o := .cells #[.slice Ao23 t397.length co23, .slice Ao26 t400.length co26] 45 (0, 0)) (by (with_reducible repeat (first | refine blk_drewN ?_ _ | refine blk_drew ?_ | refine blk_alloc ?_ _)); exact BK404.out) hb)
         have n12_ := Aside0.mk (blk_below (g := gb405) (o := .cells #[.slice A0 l0.length c0, .slice A1 l1.length c1] 45 (0, 0)) (by (with_reducible repeat (first | refine blk_drewN ?_ _ | refine blk_drew ?_ | refine blk_alloc ?_ _)); exact BK405.out) hb)
         have n13_ := Aside0.mk (blk_below (g := gb422) (o := .cells #[.slice Ao76 t416.length co76, .slice Ao81 t419.length co81] 45 (0, 0)) (by (with_reducible repeat (first | refine blk_drewN ?_ _ | refine blk_drew ?_ | refine blk_alloc ?_ _)); exact BK422.out) hb)
         have n14_ := Aside0.mk (below_step (B1_) hb)
         clear HO_397000
         clear HO_397001
         clear HO_405000
         clear HO_405001
         clear HO418
         clear HO421
         clear HO425
         clear HO428
         clear HO433
         clear HO436
         clear BK396
         clear BK404
         clear BK405
         clear BK422
         clear HB
         have HO_397000 := n0_
         have HO_397001 := n1_
         have HO_405000 := n2_
         have HO_405001 := n3_
         have HO418 := n4_
         have HO421 := n5_
         have HO425 := n6_
         have HO428 := n7_
         have HO433 := n8_
         have HO436 := n9_
         have BK396 := n10_
         have BK404 := n11_
         have BK405 := n12_
         have BK422 := n13_
         have HB := n14_
         clear n0_ n1_ n2_ n3_ n4_ n5_ n6_ n7_ n8_ n9_ n10_ n11_ n12_ n13_ n14_
         (try clear hb)
         (try clear hb2)
         (try clear hk)
         (try clear hi)
         refine hK.out _ _ ⟨(blk_cell BK396.out 0).trans rfl, (blk_cell BK396.out 1).trans rfl, (blk_cell BK404.out 0).trans rfl, (blk_cell BK404.out 1).trans rfl, (blk_cell BK422.out 0).trans rfl, (blk_cell BK422.out 1).trans rfl⟩ (fun hHeld => ?_)
         clear hK K
         refine norm_ (a' := ?_) ?_ ?_
         rotate_left
         ·show Act.put _ (some 96) _ = _
          simp only [Act.put, List.setIfInBounds_toArray, List.set_cons_zero, List.set_cons_succ, i64_w, i32_w]
          rfl
         refine pure_ (i := 21) (N := some 97) (v := ?_) (a' := ?_) #[T_,T_,T_,T_,T_,T_,T_,T_,T_,T_,T_,T_,T_,T_,T_,T_,T_,T_,T_,T_,T_,T_,F_] rfl rfl (any_of HT_.out (by kernel_rfl)) (fun _ _ _ h => h) (Or.inl ⟨by rfl, ?_⟩) ?_ ?_
         rotate_left
         ·intro w'
          go_simp
          with_reducible rfl
         rotate_left
         ·simp only [Act.put, List.setIfInBounds_toArray, List.set_cons_zero, List.set_cons_succ, i64_w, i32_w]
          rfl
         refine pure_ (i := 22) (N := some 6) (v := ?_) (a' := ?_) #[T_,T_,T_,T_,T_,T_,T_,T_,T_,T_,T_,T_,T_,T_,T_,T_,T_,T_,T_,T_,T_,T_,T_] rfl rfl (any_of HT_.out (by kernel_rfl)) (fun _ _ _ h => h) (Or.inl ⟨by rfl, ?_⟩) ?_ ?_
         rotate_left
         ·intro w'
          go_simp
          with_reducible rfl
         rotate_left
         ·simp only [Act.put, List.setIfInBounds_toArray, List.set_cons_zero, List.set_cons_succ, i64_w, i32_w]
          rfl
         refine done_ (done_of HT_.out (by kernel_rfl)) ?_
         try go_wp2
         go_ret
         exact ⟨by first | rfl | exact congrArg (fun b => Ending.returned (Value.bool b)) HR_.out | (simp [errW_none, errW_some] <;> rfl) | (simp [*, errW_none, errW_some] <;> rfl), B1_⟩
        replace c68 := Bool.eq_false_iff.mpr c68
        subst c68
        have H1 : (some false) = some true := by rw [if_neg (show ¬ (false = true) by decide)] at H; exact H
        clear H
        have H := H1
        clear H1
        exact absurd H (by simp)
       replace c66 := Bool.eq_false_iff.mpr c66
       subst c66
       have H1 : (some false) = some true := by rw [if_neg (show ¬ (false = true) by decide)] at H; exact H
       clear H
       have H := H1
       clear H1
       exact absurd H (by simp)
      rw [if_neg c62] at H
      have c62b0 : (t395 == 0) = false := beq_eq_false_iff_ne.mpr c62
      have c62b1 : (t395 != 0) = true := bne_iff_ne.mpr c62
      by_cases c93 : (t416.length : Int) = 0
      ·rw [if_pos c93] at H
       have c93b0 : ((t416.length : Int) == 0) = true := beq_iff_eq.mpr c93
       have c93b1 : ((t416.length : Int) != 0) = false := bne_eq_false_iff_eq.mpr c93
       clear c93
       have HR_ := Aside0.mk (Option.some.inj H)
       clear H
       have hnb94 := NB396_404.out
       have hnc94 := NB404_396.out
       have hnb95 := NB396_405.out
       have hnc95 := NB405_396.out
       have hcz96_0 : wc.cell? ⟨gb396, 0, none⟩ = some (.slice Ao17 t389.length co17) := (blk_cell BK396.out 0).trans rfl
       have hcz96_1 : wc.cell? ⟨gb396, 1, none⟩ = some (.slice Ao19 t392.length co19) := (blk_cell BK396.out 1).trans rfl
       have hfz96_0 := blk_frozen BK396.out 0
       have hfz96_1 := blk_frozen BK396.out 1
       go_wp2_with (first | ((with_reducible refine gate_callee (f := 31) rfl ?_); refine goesL_ (some 63) rfl rfl Try.func31 (by kernel_rfl) rfl #[.agg #[.slice Ao17 t389.length co17, .slice Ao19 t392.length co19]] rfl (by (try simp only [List.map_toArray, List.map_cons, List.map_nil]); first | done | rfl | (simp only [List.length_drop, List.length_take]; rfl)) ?_; (with_reducible refine (graph_Turned.calls kj13 _ _ t389 _ _ t392 t416 t419 _ ?side1 ?side2 ?side3 ?side4 A61.out).mono ?_); (case side1 => repeat (first | exact (Kd.S_reads' HO_397000.out).2.2 | (with_reducible refine Kd.C_alloc ?_ _) | (with_reducible refine Kd.C_drewN ?_ _) | (with_reducible refine Kd.C_drew ?_))); (case side2 => exact (Kd.S_reads' HO_397000.out).2.1); (case side3 => repeat (first | exact (Kd.S_reads' HO_397001.out).2.2 | (with_reducible refine Kd.C_alloc ?_ _) | (with_reducible refine Kd.C_drewN ?_ _) | (with_reducible refine Kd.C_drew ?_))); (case side4 => exact (Kd.S_reads' HO_397001.out).2.1); rintro e w97 ⟨v417, v420, rfl, ho0, ho1, hb⟩; refine ⟨_, rfl, ?_⟩; have n0_ := Aside0.mk (Kd.S_mono (Kd.S_told (Kd.S_told (Kd.S_old (by (with_reducible repeat (first | apply Kd.S_alloc | apply Kd.S_drewN | apply Kd.S_drew)); exact HO_397000.out) hb) (Kd.S_base ho0)) (Kd.S_base ho1)) (fun _ h_ => h_.1)); have n1_ := Aside0.mk (Kd.S_mono (Kd.S_told (Kd.S_told (Kd.S_old (by (with_reducible repeat (first | apply Kd.S_alloc | apply Kd.S_drewN | apply Kd.S_drew)); exact HO_397001.out) hb) (Kd.S_base ho0)) (Kd.S_base ho1)) (fun _ h_ => h_.1)); have n2_ := Aside0.mk (Kd.V_mono (Kd.V_told (Kd.V_told (Kd.V_old (by (with_reducible repeat (first | apply Kd.V_alloc | apply Kd.V_drewN | apply Kd.V_drew)); exact HO_405000.out) hb) (Kd.S_base ho0)) (Kd.S_base ho1)) (fun _ h_ => h_.1)); have n3_ := Aside0.mk (Kd.S_mono (Kd.S_told (Kd.S_told (Kd.S_old (by (with_reducible repeat (first | apply Kd.S_alloc | apply Kd.S_drewN | apply Kd.S_drew)); exact HO_405001.out) hb) (Kd.S_base ho0)) (Kd.S_base ho1)) (fun _ h_ => h_.1)); have n4_ := Aside0.mk (Kd.S_lower (Kd.S_new' (Kd.S_new' (Kd.S_new' ho0 (Kd.S_lt (by (with_reducible repeat (first | apply Kd.S_alloc | apply Kd.S_drewN | apply Kd.S_drew)); exact HO_397000.out))) (Kd.S_lt (by (with_reducible repeat (first | apply Kd.S_alloc | apply Kd.S_drewN | apply Kd.S_drew)); exact HO_397001.out))) (Kd.S_lt (by (with_reducible repeat (first | apply Kd.S_alloc | apply Kd.S_drewN | apply Kd.S_drew)); exact HO_405001.out))) (below_size (B1_))); have n5_ := Aside0.mk (Kd.S_lower (Kd.S_new' (Kd.S_new' (Kd.S_new' ho1 (Kd.S_lt (by (with_reducible repeat (first | apply Kd.S_alloc | apply Kd.S_drewN | apply Kd.S_drew)); exact HO_397000.out))) (Kd.S_lt (by (with_reducible repeat (first | apply Kd.S_alloc | apply Kd.S_drewN | apply Kd.S_drew)); exact HO_397001.out))) (Kd.S_lt (by (with_reducible repeat (first | apply Kd.S_alloc | apply Kd.S_drewN | apply Kd.S_drew)); exact HO_405001.out))) (below_size (B1_))); have n6_ := Aside0.mk (blk_below (g := gb396) (o := .cells #[.slice Ao17 t389.length co17, .slice Ao19 t392.length co19] 45 (0, 0)) (by (with_reducible repeat (first | refine blk_drewN ?_ _ | refine blk_drew ?_ | refine blk_alloc ?_ _)); exact BK396.out) hb); have n7_ := Aside0.mk (blk_below (g := gb404) (o := .cells #[.slice Ao23 t397.length co23, .slice Ao26 t400.length co26] 45 (0, 0)) (by (with_reducible repeat (first | refine blk_drewN ?_ _ | refine blk_drew ?_ | refine blk_alloc ?_ _)); exact BK404.out) hb); have n8_ := Aside0.mk (blk_below (g := gb405) (o := .cells #[.slice A0 l0.length c0, .slice A1 l1.length c1] 45 (0, 0)) (by (with_reducible repeat (first | refine blk_drewN ?_ _ | refine blk_drew ?_ | refine blk_alloc ?_ _)); exact BK405.out) hb); have n9_ := Aside0.mk (below_step (B1_) hb); clear HO_397000; clear HO_397001; clear HO_405000; clear HO_405001; clear BK396; clear BK404; clear BK405; clear HB; have HO_397000 := n0_; have HO_397001 := n1_; have HO_405000 := n2_; have HO_405001 := n3_; have HO418 := n4_; have HO421 := n5_; have BK396 := n6_; have BK404 := n7_; have BK405 := n8_; have HB := n9_; clear n0_ n1_ n2_ n3_ n4_ n5_ n6_ n7_ n8_ n9_; (try clear hb); (try clear hb2); (try clear hk); (try clear hi); (try clear ho0); (try clear ho1)) | ((with_reducible refine gate_dst (N := 12) rfl ?_); (try (refine gate_guard (by rfl) ?_; dsimp only)); refine box_event ?hg (N := 12) ?hd (cs := #[.slice none 0 0, .slice none 0 0]) (t := 45) ?hr ?_; (case hd => rfl); (case hg => rfl); (case hr => first | (go_simp; done) | (go_simp; rfl)); intro gb422 hg w98 hbox hb; have n0_ := Aside0.mk (Kd.S_below (by (with_reducible repeat (first | apply Kd.S_alloc | apply Kd.S_drewN | apply Kd.S_drew)); exact HO_397000.out) hb); have n1_ := Aside0.mk (Kd.S_below (by (with_reducible repeat (first | apply Kd.S_alloc | apply Kd.S_drewN | apply Kd.S_drew)); exact HO_397001.out) hb); have n2_ := Aside0.mk (Kd.V_below (Kd.V_elderB (by (with_reducible repeat (first | apply Kd.V_alloc | apply Kd.V_drewN | apply Kd.V_drew)); exact HO_405000.out) gb422 (Nat.le_of_eq hg.symm)) hb); have n3_ := Aside0.mk (Kd.S_below (by (with_reducible repeat (first | apply Kd.S_alloc | apply Kd.S_drewN | apply Kd.S_drew)); exact HO_405001.out) hb); have n4_ := Aside0.mk (Kd.S_below (by (with_reducible repeat (first | apply Kd.S_alloc | apply Kd.S_drewN | apply Kd.S_drew)); exact HO418.out) hb); have n5_ := Aside0.mk (Kd.S_below (by (with_reducible repeat (first | apply Kd.S_alloc | apply Kd.S_drewN | apply Kd.S_drew)); exact HO421.out) hb); have n6_ := Aside0.mk (blk_below (g := gb396) (o := .cells #[.slice Ao17 t389.length co17, .slice Ao19 t392.length co19] 45 (0, 0)) (by (with_reducible repeat (first | refine blk_drewN ?_ _ | refine blk_drew ?_ | refine blk_alloc ?_ _)); exact BK396.out) hb); have n7_ := Aside0.mk (blk_below (g := gb404) (o := .cells #[.slice Ao23 t397.length co23, .slice Ao26 t400.length co26] 45 (0, 0)) (by (with_reducible repeat (first | refine blk_drewN ?_ _ | refine blk_drew ?_ | refine blk_alloc ?_ _)); exact BK404.out) hb); have n8_ := Aside0.mk (blk_below (g := gb405) (o := .cells #[.slice A0 l0.length c0, .slice A1 l1.length c1] 45 (0, 0)) (by (with_reducible repeat (first | refine blk_drewN ?_ _ | refine blk_drew ?_ | refine blk_alloc ?_ _)); exact BK405.out) hb); have n9_ := Aside0.mk (below_step (B1_) hb); have n10_ := Aside0.mk (hbox); have n11_ := Aside0.mk ((by rw [hg]; exact (below_size (B1_)) : w.heap.size ≤ gb422)); have n12_ := Aside0.mk ((by rw [hg]; exact (below_size (B1_)) : w.heap.size ≤ gb422)); have n13_ := Aside0.mk ((by rw [hg]; exact Nat.ne_of_lt (blk_lt (g := gb396) (o := .cells #[.slice Ao17 t389.length co17, .slice Ao19 t392.length co19] 45 (0, 0)) (by (with_reducible repeat (first | refine blk_drewN ?_ _ | refine blk_drew ?_ | refine blk_alloc ?_ _)); exact BK396.out)) : gb396 ≠ gb422)); have n14_ := Aside0.mk ((by rw [hg]; exact Nat.ne_of_gt (blk_lt (g := gb396) (o := .cells #[.slice Ao17 t389.length co17, .slice Ao19 t392.length co19] 45 (0, 0)) (by (with_reducible repeat (first | refine blk_drewN ?_ _ | refine blk_drew ?_ | refine blk_alloc ?_ _)); exact BK396.out)) : gb422 ≠ gb396)); have n15_ := Aside0.mk ((by rw [hg]; exact Nat.ne_of_lt (blk_lt (g := gb404) (o := .cells #[.slice Ao23 t397.length co23, .slice Ao26 t400.length co26] 45 (0, 0)) (by (with_reducible repeat (first | refine blk_drewN ?_ _ | refine blk_drew ?_ | refine blk_alloc ?_ _)); exact BK404.out)) : gb404 ≠ gb422)); have n16_ := Aside0.mk ((by rw [hg]; exact Nat.ne_of_gt (blk_lt (g := gb404) (o := .cells #[.slice Ao23 t397.length co23, .slice Ao26 t400.length co26] 45 (0, 0)) (by (with_reducible repeat (first | refine blk_drewN ?_ _ | refine blk_drew ?_ | refine blk_alloc ?_ _)); exact BK404.out)) : gb422 ≠ gb404)); have n17_ := Aside0.mk ((by rw [hg]; exact Nat.ne_of_lt (blk_lt (g := gb405) (o := .cells #[.slice A0 l0.length c0, .slice A1 l1.length c1] 45 (0, 0)) (by (with_reducible repeat (first | refine blk_drewN ?_ _ | refine blk_drew ?_ | refine blk_alloc ?_ _)); exact BK405.out)) : gb405 ≠ gb422)); have n18_ := Aside0.mk ((by rw [hg]; exact Nat.ne_of_gt (blk_lt (g := gb405) (o := .cells #[.slice A0 l0.length c0, .slice A1 l1.length c1] 45 (0, 0)) (by (with_reducible repeat (first | refine blk_drewN ?_ _ | refine blk_drew ?_ | refine blk_alloc ?_ _)); exact BK405.out)) : gb422 ≠ gb405)); clear HO_397000; clear HO_397001; clear HO_405000; clear HO_405001; clear HO418; clear HO421; clear BK396; clear BK404; clear BK405; clear HB; have HO_397000 := n0_; have HO_397001 := n1_; have HO_405000 := n2_; have HO_405001 := n3_; have HO418 := n4_; have HO421 := n5_; have BK396 := n6_; have BK404 := n7_; have BK405 := n8_; have HB := n9_; have BK422 := n10_; have GW422 := n11_; have GE422 := n12_; have NB396_422 := n13_; have NB422_396 := n14_; have NB404_422 := n15_; have NB422_404 := n16_; have NB405_422 := n17_; have NB422_405 := n18_; clear n0_ n1_ n2_ n3_ n4_ n5_ n6_ n7_ n8_ n9_ n10_ n11_ n12_ n13_ n14_ n15_ n16_ n17_ n18_; clear hb hbox hg; obtain ⟨Ao99, co99, eo99⟩ := Kd.S_slice HO418.out; subst eo99; have hnb100 := NB422_396.out; have hnc100 := NB396_422.out; have hnb101 := NB422_404.out; have hnc101 := NB404_422.out; have hnb102 := NB422_405.out; have hnc102 := NB405_422.out; have hcz103_0 : w98.cell? ⟨gb422, 0, none⟩ = some (.slice none 0 0) := (blk_cell BK422.out 0).trans rfl; have hcz103_1 : w98.cell? ⟨gb422, 1, none⟩ = some (.slice none 0 0) := (blk_cell BK422.out 1).trans rfl; have hfz103_0 := blk_frozen BK422.out 0; have hfz103_1 := blk_frozen BK422.out 1; obtain ⟨Ao104, co104, eo104⟩ := Kd.S_slice HO421.out; subst eo104))
       go_ret
       exact ⟨by first | rfl | exact congrArg (fun b => Ending.returned (Value.bool b)) HR_.out | (simp [errW_none, errW_some] <;> rfl) | (simp [*, errW_none, errW_some] <;> rfl), B1_⟩
      rw [if_neg c93] at H
      have c93b0 : ((t416.length : Int) == 0) = false := beq_eq_false_iff_ne.mpr c93
      have c93b1 : ((t416.length : Int) != 0) = true := bne_iff_ne.mpr c93
      have c93b2 : ¬ (t416 = []) := fun h_ => c93 (by rw [h_]; rfl)
      exact absurd H (by simp)
 replace c5 := Bool.eq_false_iff.mpr c5
 subst c5
 have H1 : (some false) = some true := by rw [if_neg (show ¬ (false = true) by decide)] at H; exact H
 clear H
 have H := H1
 clear H1
 exact absurd H (by simp)

/-- THE ONE PURE STATEMENT of locksteplaw06_GraphOrders: yours. -/
def locksteplaw06_GraphOrders.Pure : Prop := ∀ (l0 : List (List Int)) (l1 : List (List Int)) (a2 : Int), RowsOk .i64 l0 → RowsOk .i64 l1 → (Lit.int .i64 a2).wf = true → ∃ k, locksteplaw06_GraphOrders.f k l0 l1 a2 = some true
theorem locksteplaw06_GraphOrders.walk (P : locksteplaw06_GraphOrders.Pure) (a0 : Option Addr) (cap0 : Nat) (l0 : List (List Int)) (a1 : Option Addr) (cap1 : Nat) (l1 : List (List Int)) (a2 : Int) (w : World) (w0 : Kd.C (Kd.slice 3 (Kd.int .i64)) w a0 l0.length l0) (y0 : l0.length ≤ cap0) (m0 : RowsOk .i64 l0) (w1 : Kd.C (Kd.slice 3 (Kd.int .i64)) w a1 l1.length l1) (y1 : l1.length ≤ cap1) (m1 : RowsOk .i64 l1) (w2 : (Lit.int .i64 a2).wf = true) :
 Calls Try.prog 10 #[.slice a0 l0.length cap0, .slice a1 l1.length cap1, .int .i64 a2] w fun e w' => e = .returned (.bool true) ∧ Below w.heap.size w w' := by
 obtain ⟨k, h⟩ := P l0 l1 a2 m0 m1 w2
 refine (locksteplaw06_GraphOrders.calls k _ _ l0 _ _ l1 a2 w w0 y0 w1 y1 h).mono ?_
 rintro e w' ⟨rfl, hd⟩
 exact ⟨rfl, hd⟩

end Go.Proofs.Ytokfaaemhniodaa.G
