/- Printed by a program of this session (wip/tools/op.py, over the kit's print program): Go functions as plain Lean functions, each with a proof that the call answers so. Conditions: each theorem's own. -/
import Derived.Test.YtokfaaemhniodaaGx0
import Derived.Test.YtokfaaemhniodaaGx4
import Derived.Test.YtokfaaemhniodaaGx7
import Derived.Test.YtokfaaemhniodaaGx9
import Derived.Test.YtokfaaemhniodaaGx10
import Derived.Test.YtokfaaemhniodaaGx11
import Derived.Test.YtokfaaemhniodaaGx14
import Derived.Test.YtokfaaemhniodaaGx15
import Derived.Test.YtokfaaemhniodaaGx16
import Derived.Test.YtokfaaemhniodaaGx17
namespace Go.Proofs.Ytokfaaemhniodaa.G
open Go.Proofs.YtokfaaemhniodaaH
open Go.RowKit Go.Proofs.YtokfaaemhniodaaW.PrintWords Go.Proofs.YtokfaaemhniodaaW.PrintLast Go.Proofs.YtokfaaemhniodaaW.PrintMore
attribute [local go_sem] max2_int min2_int max_two min_two max_three min_three max_four min_four   -- for this text's walks alone
set_option linter.unusedVariables false
set_option linter.unusedSimpArgs false

/-! ### locksteplaw06_GraphTurned: function 11 -/
mutual
def locksteplaw06_GraphTurned.j0 : Nat → List (List Int) → Bool → Option (Bool)
  | 0, _, _ => none
  | k + 1, x0, x18 => if x18 = true then (some true) else ((graph_Make.f k x0).bind fun bt386 => (if bt386.2.2 = 0 then ((graph_Turned.f k bt386.1 bt386.2.1).bind fun bt395 => ((graph_Turned.f k bt395.1 bt395.2).bind fun bt402 => ((lockstepref06_Same.f k bt402.1 bt402.2 bt386.1 bt386.2.1).bind fun t408 => (if t408 = true then ((graph_May.f k bt395.1 bt395.2).bind fun t409 => (locksteplaw06_GraphTurned.j1 k x0 (!t409) bt386.1 bt386.2.1 bt395.1 bt395.2)) else (locksteplaw06_GraphTurned.j1 k x0 true bt386.1 bt386.2.1 bt395.1 bt395.2))))) else (if (bt386.1.length : Int) = 0 then ((graph_May.f k bt386.1 bt386.2.1).bind fun t394 => (some (!t394))) else (some false))))
def locksteplaw06_GraphTurned.j1 : Nat → List (List Int) → Bool → List (List Int) → List (List Int) → List (List Int) → List (List Int) → Option (Bool)
  | 0, _, _, _, _, _, _ => none
  | k + 1, x0, x46, x394000, x394001, x402000, x402001 => if x46 = true then (some false) else (locksteplaw06_GraphTurned.l0 k x0 0 x394000 x394001 x402000 x402001)
def locksteplaw06_GraphTurned.l0 : Nat → List (List Int) → Int → List (List Int) → List (List Int) → List (List Int) → List (List Int) → Option (Bool)
  | 0, _, _, _, _, _, _ => none
  | k + 1, x0, x6, x394000, x394001, x402000, x402001 => if x6 < (x0.length : Int) then ((graph_Order.f k x394000 x394001 x6).bind fun t414 => (locksteplaw06_GraphTurned.l1 k x0 x6 t414 0 x394000 x394001 x402000 x402001)) else ((graph_Order.f k x394000 x394001 (x0.length : Int)).bind fun t410 => ((lockstepref02_Ints.f k t410 ([] : List Int)).bind fun t413 => (some t413)))
def locksteplaw06_GraphTurned.l1 : Nat → List (List Int) → Int → List Int → Int → List (List Int) → List (List Int) → List (List Int) → List (List Int) → Option (Bool)
  | 0, _, _, _, _, _, _, _, _ => none
  | k + 1, x0, x6, x7, x8, x394000, x394001, x402000, x402001 => if x8 < (x7.length : Int) then (if 0 ≤ x8 then ((graph_Order.f k x402000 x402001 (rd x7 x8)).bind fun t418 => ((lockstepref06_Has.f k t418 x6).bind fun t421 => (if t421 = true then (locksteplaw06_GraphTurned.l1 k x0 x6 x7 (wrap64 (x8 + 1)) x394000 x394001 x402000 x402001) else (some false)))) else (none)) else (locksteplaw06_GraphTurned.l0 k x0 (wrap64 (x6 + 1)) x394000 x394001 x402000 x402001)
end
def locksteplaw06_GraphTurned.f (k : Nat) (l0 : List (List Int)) : Option (Bool) := (locksteplaw06_awake.f k).bind fun t384 => (if t384 = true then (if (l0.length : Int) > 20 then (locksteplaw06_GraphTurned.j0 k l0 true) else ((lockstepref06_Small.f k l0).bind fun t385 => (locksteplaw06_GraphTurned.j0 k l0 (!t385)))) else (some false))
theorem locksteplaw06_GraphTurned.mono_l : ∀ k, (∀ y0 y1, LeO (locksteplaw06_GraphTurned.j0 k y0 y1) (locksteplaw06_GraphTurned.j0 (k + 1) y0 y1)) ∧ (∀ y0 y1 y2 y3 y4 y5, LeO (locksteplaw06_GraphTurned.j1 k y0 y1 y2 y3 y4 y5) (locksteplaw06_GraphTurned.j1 (k + 1) y0 y1 y2 y3 y4 y5)) ∧ (∀ y0 y1 y2 y3 y4 y5, LeO (locksteplaw06_GraphTurned.l0 k y0 y1 y2 y3 y4 y5) (locksteplaw06_GraphTurned.l0 (k + 1) y0 y1 y2 y3 y4 y5)) ∧ (∀ y0 y1 y2 y3 y4 y5 y6 y7, LeO (locksteplaw06_GraphTurned.l1 k y0 y1 y2 y3 y4 y5 y6 y7) (locksteplaw06_GraphTurned.l1 (k + 1) y0 y1 y2 y3 y4 y5 y6 y7))
  | 0 => ⟨fun _ _ r h => by simp [locksteplaw06_GraphTurned.j0] at h, fun _ _ _ _ _ _ r h => by simp [locksteplaw06_GraphTurned.j1] at h, fun _ _ _ _ _ _ r h => by simp [locksteplaw06_GraphTurned.l0] at h, fun _ _ _ _ _ _ _ _ r h => by simp [locksteplaw06_GraphTurned.l1] at h⟩
  | k + 1 => by
    obtain ⟨ih0, ih1, ih2, ih3⟩ := locksteplaw06_GraphTurned.mono_l k
    refine ⟨?_, ?_, ?_, ?_⟩
    · intro y0 y1
      unfold locksteplaw06_GraphTurned.j0
      repeat' first
      | (with_reducible exact ih0 _ _)
      | (with_reducible exact ih1 _ _ _ _ _ _)
      | (with_reducible exact ih2 _ _ _ _ _ _)
      | (with_reducible exact ih3 _ _ _ _ _ _ _ _)
      | (with_reducible exact graph_Make.mono _ _)
      | (with_reducible exact graph_May.mono _ _ _)
      | (with_reducible exact graph_Order.mono _ _ _ _)
      | (with_reducible exact graph_Turned.mono _ _ _)
      | (with_reducible exact locksteplaw06_awake.mono _)
      | (with_reducible exact lockstepref02_Ints.mono _ _ _)
      | (with_reducible exact lockstepref06_Has.mono _ _ _)
      | (with_reducible exact lockstepref06_Same.mono _ _ _ _ _)
      | (with_reducible exact lockstepref06_Small.mono _ _)
      | (with_reducible exact LeO.refl _)
      | (with_reducible exact LeO.none _)
      | (with_reducible refine LeO.ite ?_ ?_)
      | (with_reducible refine LeO.bind ?_ (fun _ => ?_))
      | exact ih0 _ _
      | exact ih1 _ _ _ _ _ _
      | exact ih2 _ _ _ _ _ _
      | exact ih3 _ _ _ _ _ _ _ _
      | exact graph_Make.mono _ _
      | exact graph_May.mono _ _ _
      | exact graph_Order.mono _ _ _ _
      | exact graph_Turned.mono _ _ _
      | exact locksteplaw06_awake.mono _
      | exact lockstepref02_Ints.mono _ _ _
      | exact lockstepref06_Has.mono _ _ _
      | exact lockstepref06_Same.mono _ _ _ _ _
      | exact lockstepref06_Small.mono _ _
      | exact LeO.none _
      | refine LeO.ite ?_ ?_
      | refine LeO.bind ?_ (fun _ => ?_)
    · intro y0 y1 y2 y3 y4 y5
      unfold locksteplaw06_GraphTurned.j1
      repeat' first
      | (with_reducible exact ih0 _ _)
      | (with_reducible exact ih1 _ _ _ _ _ _)
      | (with_reducible exact ih2 _ _ _ _ _ _)
      | (with_reducible exact ih3 _ _ _ _ _ _ _ _)
      | (with_reducible exact graph_Make.mono _ _)
      | (with_reducible exact graph_May.mono _ _ _)
      | (with_reducible exact graph_Order.mono _ _ _ _)
      | (with_reducible exact graph_Turned.mono _ _ _)
      | (with_reducible exact locksteplaw06_awake.mono _)
      | (with_reducible exact lockstepref02_Ints.mono _ _ _)
      | (with_reducible exact lockstepref06_Has.mono _ _ _)
      | (with_reducible exact lockstepref06_Same.mono _ _ _ _ _)
      | (with_reducible exact lockstepref06_Small.mono _ _)
      | (with_reducible exact LeO.refl _)
      | (with_reducible exact LeO.none _)
      | (with_reducible refine LeO.ite ?_ ?_)
      | (with_reducible refine LeO.bind ?_ (fun _ => ?_))
      | exact ih0 _ _
      | exact ih1 _ _ _ _ _ _
      | exact ih2 _ _ _ _ _ _
      | exact ih3 _ _ _ _ _ _ _ _
      | exact graph_Make.mono _ _
      | exact graph_May.mono _ _ _
      | exact graph_Order.mono _ _ _ _
      | exact graph_Turned.mono _ _ _
      | exact locksteplaw06_awake.mono _
      | exact lockstepref02_Ints.mono _ _ _
      | exact lockstepref06_Has.mono _ _ _
      | exact lockstepref06_Same.mono _ _ _ _ _
      | exact lockstepref06_Small.mono _ _
      | exact LeO.none _
      | refine LeO.ite ?_ ?_
      | refine LeO.bind ?_ (fun _ => ?_)
    · intro y0 y1 y2 y3 y4 y5
      unfold locksteplaw06_GraphTurned.l0
      repeat' first
      | (with_reducible exact ih0 _ _)
      | (with_reducible exact ih1 _ _ _ _ _ _)
      | (with_reducible exact ih2 _ _ _ _ _ _)
      | (with_reducible exact ih3 _ _ _ _ _ _ _ _)
      | (with_reducible exact graph_Make.mono _ _)
      | (with_reducible exact graph_May.mono _ _ _)
      | (with_reducible exact graph_Order.mono _ _ _ _)
      | (with_reducible exact graph_Turned.mono _ _ _)
      | (with_reducible exact locksteplaw06_awake.mono _)
      | (with_reducible exact lockstepref02_Ints.mono _ _ _)
      | (with_reducible exact lockstepref06_Has.mono _ _ _)
      | (with_reducible exact lockstepref06_Same.mono _ _ _ _ _)
      | (with_reducible exact lockstepref06_Small.mono _ _)
      | (with_reducible exact LeO.refl _)
      | (with_reducible exact LeO.none _)
      | (with_reducible refine LeO.ite ?_ ?_)
      | (with_reducible refine LeO.bind ?_ (fun _ => ?_))
      | exact ih0 _ _
      | exact ih1 _ _ _ _ _ _
      | exact ih2 _ _ _ _ _ _
      | exact ih3 _ _ _ _ _ _ _ _
      | exact graph_Make.mono _ _
      | exact graph_May.mono _ _ _
      | exact graph_Order.mono _ _ _ _
      | exact graph_Turned.mono _ _ _
      | exact locksteplaw06_awake.mono _
      | exact lockstepref02_Ints.mono _ _ _
      | exact lockstepref06_Has.mono _ _ _
      | exact lockstepref06_Same.mono _ _ _ _ _
      | exact lockstepref06_Small.mono _ _
      | exact LeO.none _
      | refine LeO.ite ?_ ?_
      | refine LeO.bind ?_ (fun _ => ?_)
    · intro y0 y1 y2 y3 y4 y5 y6 y7
      unfold locksteplaw06_GraphTurned.l1
      repeat' first
      | (with_reducible exact ih0 _ _)
      | (with_reducible exact ih1 _ _ _ _ _ _)
      | (with_reducible exact ih2 _ _ _ _ _ _)
      | (with_reducible exact ih3 _ _ _ _ _ _ _ _)
      | (with_reducible exact graph_Make.mono _ _)
      | (with_reducible exact graph_May.mono _ _ _)
      | (with_reducible exact graph_Order.mono _ _ _ _)
      | (with_reducible exact graph_Turned.mono _ _ _)
      | (with_reducible exact locksteplaw06_awake.mono _)
      | (with_reducible exact lockstepref02_Ints.mono _ _ _)
      | (with_reducible exact lockstepref06_Has.mono _ _ _)
      | (with_reducible exact lockstepref06_Same.mono _ _ _ _ _)
      | (with_reducible exact lockstepref06_Small.mono _ _)
      | (with_reducible exact LeO.refl _)
      | (with_reducible exact LeO.none _)
      | (with_reducible refine LeO.ite ?_ ?_)
      | (with_reducible refine LeO.bind ?_ (fun _ => ?_))
      | exact ih0 _ _
      | exact ih1 _ _ _ _ _ _
      | exact ih2 _ _ _ _ _ _
      | exact ih3 _ _ _ _ _ _ _ _
      | exact graph_Make.mono _ _
      | exact graph_May.mono _ _ _
      | exact graph_Order.mono _ _ _ _
      | exact graph_Turned.mono _ _ _
      | exact locksteplaw06_awake.mono _
      | exact lockstepref02_Ints.mono _ _ _
      | exact lockstepref06_Has.mono _ _ _
      | exact lockstepref06_Same.mono _ _ _ _ _
      | exact lockstepref06_Small.mono _ _
      | exact LeO.none _
      | refine LeO.ite ?_ ?_
      | refine LeO.bind ?_ (fun _ => ?_)
theorem locksteplaw06_GraphTurned.mono : ∀ a0 k, LeO (locksteplaw06_GraphTurned.f k a0) (locksteplaw06_GraphTurned.f (k + 1) a0) := by
  intro a0 k
  obtain ⟨ih0, ih1, ih2, ih3⟩ := locksteplaw06_GraphTurned.mono_l k
  unfold locksteplaw06_GraphTurned.f
  repeat' first
      | (with_reducible exact ih0 _ _)
      | (with_reducible exact ih1 _ _ _ _ _ _)
      | (with_reducible exact ih2 _ _ _ _ _ _)
      | (with_reducible exact ih3 _ _ _ _ _ _ _ _)
      | (with_reducible exact graph_Make.mono _ _)
      | (with_reducible exact graph_May.mono _ _ _)
      | (with_reducible exact graph_Order.mono _ _ _ _)
      | (with_reducible exact graph_Turned.mono _ _ _)
      | (with_reducible exact locksteplaw06_awake.mono _)
      | (with_reducible exact lockstepref02_Ints.mono _ _ _)
      | (with_reducible exact lockstepref06_Has.mono _ _ _)
      | (with_reducible exact lockstepref06_Same.mono _ _ _ _ _)
      | (with_reducible exact lockstepref06_Small.mono _ _)
      | (with_reducible exact LeO.refl _)
      | (with_reducible exact LeO.none _)
      | (with_reducible refine LeO.ite ?_ ?_)
      | (with_reducible refine LeO.bind ?_ (fun _ => ?_))
      | exact ih0 _ _
      | exact ih1 _ _ _ _ _ _
      | exact ih2 _ _ _ _ _ _
      | exact ih3 _ _ _ _ _ _ _ _
      | exact graph_Make.mono _ _
      | exact graph_May.mono _ _ _
      | exact graph_Order.mono _ _ _ _
      | exact graph_Turned.mono _ _ _
      | exact locksteplaw06_awake.mono _
      | exact lockstepref02_Ints.mono _ _ _
      | exact lockstepref06_Has.mono _ _ _
      | exact lockstepref06_Same.mono _ _ _ _ _
      | exact lockstepref06_Small.mono _ _
      | exact LeO.none _
      | refine LeO.ite ?_ ?_
      | refine LeO.bind ?_ (fun _ => ?_)
def locksteplaw06_GraphTurned.T9 : Bool × List (List Nat × List Nat) := (true, [([], []), ([0], [0]), ([], []), ([1, 2, 1], [1, 2]), ([3], [3]), ([4, 3], [4]), ([5], [5]), ([6, 5, 5], [5, 6]), ([7, 5], [5, 7]), ([5, 8], [5, 8])])
def locksteplaw06_GraphTurned.B9 : List Nat := [0, 1, 0, 7, 15, 31, 63, 127, 255, 511]
theorem locksteplaw06_GraphTurned.tab9 : rtab .any (opsOf Try.f11 9) = locksteplaw06_GraphTurned.T9 := by kernel_rfl
theorem locksteplaw06_GraphTurned.bits9 : waitsOk locksteplaw06_GraphTurned.T9.2 locksteplaw06_GraphTurned.B9 = true := by kernel_rfl
def locksteplaw06_GraphTurned.T18 : Bool × List (List Nat × List Nat) := (true, [([], []), ([], []), ([], []), ([1, 2], [1, 2]), ([3], [3]), ([0, 4], [0, 4]), ([], []), ([5, 6, 5], [5, 6]), ([7], [7])])
def locksteplaw06_GraphTurned.B18 : List Nat := [0, 0, 0, 6, 14, 31, 0, 127, 255]
theorem locksteplaw06_GraphTurned.tab18 : rtab .any (opsOf Try.f11 18) = locksteplaw06_GraphTurned.T18 := by kernel_rfl
theorem locksteplaw06_GraphTurned.bits18 : waitsOk locksteplaw06_GraphTurned.T18.2 locksteplaw06_GraphTurned.B18 = true := by kernel_rfl
set_option maxHeartbeats 8000000 in
set_option maxRecDepth 100000 in
theorem locksteplaw06_GraphTurned.calls (k : Nat) (A0 : Option Addr) (c0 : Nat) (l0 : List (List Int)) (w : World) (hr0 : Kd.C (Kd.slice 3 (Kd.int .i64)) w A0 l0.length l0) (hc0 : l0.length ≤ c0) (h : locksteplaw06_GraphTurned.f k l0 = some true) :
    Calls Try.prog 11 #[.slice A0 l0.length c0] w fun e w' => e = .returned (.bool true) ∧ Below w.heap.size w w' := by
  have hu45 := Try.underlying45
  have HR0 := Aside0.mk hr0
  have HC0 := Aside0.mk hc0
  clear hr0 hc0
  have HB := Aside0.mk (Below.refl w.heap.size w)
  have H : ((locksteplaw06_awake.f k).bind fun t384 => (if t384 = true then (if (l0.length : Int) > 20 then (locksteplaw06_GraphTurned.j0 k l0 true) else ((lockstepref06_Small.f k l0).bind fun t385 => (locksteplaw06_GraphTurned.j0 k l0 (!t385)))) else (some false))) = some true := h
  clear h
  replace H := Option.bind_eq_some_iff.mp H
  obtain ⟨t384, A20, H⟩ := H
  replace H : (if t384 = true then (if (l0.length : Int) > 20 then (locksteplaw06_GraphTurned.j0 k l0 true) else ((lockstepref06_Small.f k l0).bind fun t385 => (locksteplaw06_GraphTurned.j0 k l0 (!t385)))) else (some false)) = some true := H
  have A2 := Aside0.mk A20
  clear A20
  by_cases c3 : t384 = true
  · subst c3
    have H1 : (if (l0.length : Int) > 20 then (locksteplaw06_GraphTurned.j0 k l0 true) else ((lockstepref06_Small.f k l0).bind fun t385 => (locksteplaw06_GraphTurned.j0 k l0 (!t385)))) = some true := by rw [if_pos rfl] at H; exact H
    clear H
    have H := H1
    clear H1
    have HC4 := Aside0.mk H
    clear H
    go_enter Try.func11, Try.ntmps11
    go_upto_region 3 with (first | ((with_reducible refine gate_callee (f := 21) rfl ?_); refine goesL_ (some 9) rfl rfl Try.func21 (by kernel_rfl) rfl #[] rfl (by (try simp only [List.map_toArray, List.map_cons, List.map_nil]); first | done | rfl | (simp only [List.length_drop, List.length_take]; rfl)) ?_; (with_reducible refine (locksteplaw06_awake.calls k   _ A2.out).mono ?_); rintro e w5 ⟨rfl, hb⟩; refine ⟨_, rfl, ?_⟩; have n0_ := Aside0.mk (below_step (by repeat (first | (with_reducible first | exact HB.out | apply below_alloc | apply pw_below_drewN | apply below_drew1) | exact HB.out)) hb); clear HB; have HB := n0_; clear n0_; (try clear hb); (try clear hb2); (try clear hk); (try clear hi)))
    (try simp only [Act.put, List.setIfInBounds_toArray, List.set_cons_zero, List.set_cons_succ])
    go_cut [18] (fun v18 wc => ∃ (kq : Nat) (x18_3 : Bool), v18 = .bool x18_3 ∧ Aside0 (locksteplaw06_GraphTurned.j0 kq l0 x18_3 = some true) ∧ Aside0 (kq ≤ k) ∧ Aside0 (Below w.heap.size w wc))
    case first =>
      have H := HC4.out
      clear HC4
      by_cases c6 : (l0.length : Int) > 20
      · rw [if_pos c6] at H
        have c6b0 : decide (20 < (l0.length : Int)) = true := decide_eq_true c6
        have c6b1 : decide (20 < l0.length) = true := decide_eq_true (by omega)
        clear c6
        (first | rw [c6b0] | (simp only [i64_w, i32_w]; rw [c6b0]) | skip)
        have H' := Aside0.mk H
        clear H
        go_wp2
        go_meet
        case rel => exact ⟨_, (true), (by first | rfl | exact congrArg (fun b => Ending.returned (Value.bool b)) HR_.out | (simp; done) | (simp [*]; done)), H', ⟨by first | omega | exact Nat.le_refl _⟩, ⟨by repeat (first | (with_reducible first | exact HB.out | apply below_alloc | apply pw_below_drewN | apply below_drew1) | exact HB.out)⟩⟩
      · rw [if_neg c6] at H
        have c6b0 : decide (20 < (l0.length : Int)) = false := decide_eq_false c6
        have c6b1 : decide (20 < l0.length) = false := decide_eq_false (by omega)
        clear c6
        (first | rw [c6b0] | (simp only [i64_w, i32_w]; rw [c6b0]) | skip)
        replace H := Option.bind_eq_some_iff.mp H
        obtain ⟨t385, A70, H⟩ := H
        replace H : (locksteplaw06_GraphTurned.j0 k l0 (!t385)) = some true := H
        have A7 := Aside0.mk A70
        clear A70
        have H' := Aside0.mk H
        clear H
        go_wp2_with (first | (go_at_call 22; (with_reducible refine (lockstepref06_Small.calls k _ _ l0 t385 _ ?side1 ?side2 A7.out).mono ?_); (case side1 => repeat (first | exact (Kd.C_below HR0.out HB.out) | (with_reducible refine Kd.C_alloc ?_ _) | (with_reducible refine Kd.C_drewN ?_ _) | (with_reducible refine Kd.C_drew ?_))); (case side2 => exact HC0.out); rintro e w' ⟨rfl, ⟨nd, rfl⟩⟩))
        go_meet
        case rel => exact ⟨_, (!t385), (by first | rfl | exact congrArg (fun b => Ending.returned (Value.bool b)) HR_.out | (simp; done) | (simp [*]; done)), H', ⟨by first | omega | exact Nat.le_refl _⟩, ⟨by repeat (first | (with_reducible first | exact HB.out | apply below_alloc | apply pw_below_drewN | apply below_drew1) | exact HB.out)⟩⟩
    case rest =>
      clear HC4
      try clear c1
      try clear c2
      try clear p2
      try clear c3
      try clear c6
      try clear c6b0
      try clear c6b1
      obtain ⟨kq, x18_3, rfl, HA, HJ3, HB⟩ := hcut
      cases kq with
      | zero => exact absurd HA.out (by simp [locksteplaw06_GraphTurned.j0])
      | succ kj3 =>
        have H := HA.out
        clear HA
        simp only [locksteplaw06_GraphTurned.j0] at H
        by_cases c8 : x18_3 = true
        · subst c8
          have H1 : (some true) = some true := rfl
          clear H
          have H := H1
          clear H1
          clear H
          go_wp2
          go_ret
          exact ⟨by first | rfl | exact congrArg (fun b => Ending.returned (Value.bool b)) HR_.out | (simp [errW_none, errW_some] <;> rfl) | (simp [*, errW_none, errW_some] <;> rfl), by repeat (first | (with_reducible first | exact HB.out | apply below_alloc | apply pw_below_drewN | apply below_drew1) | exact HB.out)⟩
        · replace c8 := Bool.eq_false_iff.mpr c8
          subst c8
          have H1 : ((graph_Make.f kj3 l0).bind fun bt386 => (if bt386.2.2 = 0 then ((graph_Turned.f kj3 bt386.1 bt386.2.1).bind fun bt395 => ((graph_Turned.f kj3 bt395.1 bt395.2).bind fun bt402 => ((lockstepref06_Same.f kj3 bt402.1 bt402.2 bt386.1 bt386.2.1).bind fun t408 => (if t408 = true then ((graph_May.f kj3 bt395.1 bt395.2).bind fun t409 => (locksteplaw06_GraphTurned.j1 kj3 l0 (!t409) bt386.1 bt386.2.1 bt395.1 bt395.2)) else (locksteplaw06_GraphTurned.j1 kj3 l0 true bt386.1 bt386.2.1 bt395.1 bt395.2))))) else (if (bt386.1.length : Int) = 0 then ((graph_May.f kj3 bt386.1 bt386.2.1).bind fun t394 => (some (!t394))) else (some false)))) = some true := by rw [if_neg (show ¬ (false = true) by decide)] at H; exact H
          clear H
          have H := H1
          clear H1
          replace H := Option.bind_eq_some_iff.mp H
          obtain ⟨⟨t386, t389, t392⟩, A90, H⟩ := H
          replace H : (if t392 = 0 then ((graph_Turned.f kj3 t386 t389).bind fun bt395 => ((graph_Turned.f kj3 bt395.1 bt395.2).bind fun bt402 => ((lockstepref06_Same.f kj3 bt402.1 bt402.2 t386 t389).bind fun t408 => (if t408 = true then ((graph_May.f kj3 bt395.1 bt395.2).bind fun t409 => (locksteplaw06_GraphTurned.j1 kj3 l0 (!t409) t386 t389 bt395.1 bt395.2)) else (locksteplaw06_GraphTurned.j1 kj3 l0 true t386 t389 bt395.1 bt395.2))))) else (if (t386.length : Int) = 0 then ((graph_May.f kj3 t386 t389).bind fun t394 => (some (!t394))) else (some false))) = some true := H
          have A9 := Aside0.mk A90
          clear A90
          by_cases c10 : t392 = 0
          · rw [if_pos c10] at H
            have c10b0 : (t392 == 0) = true := beq_iff_eq.mpr c10
            have c10b1 : (t392 != 0) = false := bne_eq_false_iff_eq.mpr c10
            clear c10
            replace H := Option.bind_eq_some_iff.mp H
            obtain ⟨⟨t395, t398⟩, A110, H⟩ := H
            replace H : ((graph_Turned.f kj3 t395 t398).bind fun bt402 => ((lockstepref06_Same.f kj3 bt402.1 bt402.2 t386 t389).bind fun t408 => (if t408 = true then ((graph_May.f kj3 t395 t398).bind fun t409 => (locksteplaw06_GraphTurned.j1 kj3 l0 (!t409) t386 t389 t395 t398)) else (locksteplaw06_GraphTurned.j1 kj3 l0 true t386 t389 t395 t398)))) = some true := H
            have A11 := Aside0.mk A110
            clear A110
            have HC12 := Aside0.mk H
            clear H
            go_upto_region 9 with (first | ((with_reducible refine gate_callee (f := 23) rfl ?_); refine goesL_ (some 21) rfl rfl Try.func23 (by kernel_rfl) rfl #[.slice A0 l0.length c0] rfl (by (try simp only [List.map_toArray, List.map_cons, List.map_nil]); first | done | rfl | (simp only [List.length_drop, List.length_take]; rfl)) ?_; (with_reducible refine (graph_Make.calls kj3 _ _ l0 t386 t389 t392 _ ?side1 ?side2 A9.out).mono ?_); (case side1 => repeat (first | exact (Kd.C_below HR0.out HB.out) | (with_reducible refine Kd.C_alloc ?_ _) | (with_reducible refine Kd.C_drewN ?_ _) | (with_reducible refine Kd.C_drew ?_))); (case side2 => exact HC0.out); rintro e w13 ⟨v387, v390, rfl, ho0, ho1, hb⟩; refine ⟨_, rfl, ?_⟩; have n0_ := Aside0.mk (Kd.S_lower ho0 (below_size (by repeat (first | (with_reducible first | exact HB.out | apply below_alloc | apply pw_below_drewN | apply below_drew1) | exact HB.out)))); have n1_ := Aside0.mk (Kd.S_lower ho1 (below_size (by repeat (first | (with_reducible first | exact HB.out | apply below_alloc | apply pw_below_drewN | apply below_drew1) | exact HB.out)))); have n2_ := Aside0.mk (below_step (by repeat (first | (with_reducible first | exact HB.out | apply below_alloc | apply pw_below_drewN | apply below_drew1) | exact HB.out)) hb); clear HB; have HO388 := n0_; have HO391 := n1_; have HB := n2_; clear n0_ n1_ n2_; (try clear hb); (try clear hb2); (try clear hk); (try clear hi); (try clear ho0); (try clear ho1)) | ((with_reducible refine gate_dst (N := 3) rfl ?_); refine box_event ?hg (N := 3) ?hd (cs := #[.slice none 0 0, .slice none 0 0]) (t := 45) ?hr ?_; (case hd => rfl); (case hg => rfl); (case hr => first | (go_simp; done) | (go_simp; rfl)); intro gb393 hg w14 hbox hb; have n0_ := Aside0.mk (Kd.S_below (by (with_reducible repeat (first | apply Kd.S_alloc | apply Kd.S_drewN | apply Kd.S_drew)); exact HO388.out) hb); have n1_ := Aside0.mk (Kd.S_below (by (with_reducible repeat (first | apply Kd.S_alloc | apply Kd.S_drewN | apply Kd.S_drew)); exact HO391.out) hb); have n2_ := Aside0.mk (below_step (by repeat (first | (with_reducible first | exact HB.out | apply below_alloc | apply pw_below_drewN | apply below_drew1) | exact HB.out)) hb); have n3_ := Aside0.mk (hbox); have n4_ := Aside0.mk ((by rw [hg]; exact (below_size (by repeat (first | (with_reducible first | exact HB.out | apply below_alloc | apply pw_below_drewN | apply below_drew1) | exact HB.out))) : w.heap.size ≤ gb393)); have n5_ := Aside0.mk ((by rw [hg]; exact (below_size (by repeat (first | (with_reducible first | exact HB.out | apply below_alloc | apply pw_below_drewN | apply below_drew1) | exact HB.out))) : w.heap.size ≤ gb393)); clear HO388; clear HO391; clear HB; have HO388 := n0_; have HO391 := n1_; have HB := n2_; have BK393 := n3_; have GW393 := n4_; have GE393 := n5_; clear n0_ n1_ n2_ n3_ n4_ n5_; clear hb hbox hg; obtain ⟨Ao15, co15, eo15⟩ := Kd.S_slice HO388.out; subst eo15; have hcz16_0 : w14.cell? ⟨gb393, 0, none⟩ = some (.slice none 0 0) := (blk_cell BK393.out 0).trans rfl; have hcz16_1 : w14.cell? ⟨gb393, 1, none⟩ = some (.slice none 0 0) := (blk_cell BK393.out 1).trans rfl; have hfz16_0 := blk_frozen BK393.out 0; have hfz16_1 := blk_frozen BK393.out 1; obtain ⟨Ao17, co17, eo17⟩ := Kd.S_slice HO391.out; subst eo17) | ((with_reducible refine gate_callee (f := 31) rfl ?_); refine goesL_ (some 36) rfl rfl Try.func31 (by kernel_rfl) rfl #[.agg #[.slice Ao15 t386.length co15, .slice Ao17 t389.length co17]] rfl (by (try simp only [List.map_toArray, List.map_cons, List.map_nil]); first | done | rfl | (simp only [List.length_drop, List.length_take]; rfl)) ?_; (with_reducible refine (graph_Turned.calls kj3 _ _ t386 _ _ t389 t395 t398 _ ?side1 ?side2 ?side3 ?side4 A11.out).mono ?_); (case side1 => refine (Kd.S_reads' (e := 33) (base := w.heap.size) (ok := fun k_ => some k_ ≠ (.slice Ao17 t389.length co17 : Value).ownBlock) (n := t386.length) (c := co15) ?_).2.2; exact (by (with_reducible repeat (first | apply Kd.S_alloc | apply Kd.S_drewN | apply Kd.S_drew)); exact (Kd.S_mono (Kd.S_far (p := ⟨gb393, 1, none⟩) (Kd.S_far (p := ⟨gb393, 0, none⟩) (Kd.S_types HO388.out BK393.out (by decide)) (fun _ hk => hk.2) (.slice Ao15 t386.length co15)) (fun _ hk => hk.2) (.slice Ao17 t389.length co17)) (fun _ h_ => h_.1)))); (case side2 => exact (Kd.S_reads' HO388.out).2.1); (case side3 => refine (Kd.S_reads' (e := 33) (base := w.heap.size) (ok := fun k_ => some k_ ≠ (.slice Ao15 t386.length co15 : Value).ownBlock) (n := t389.length) (c := co17) ?_).2.2; exact (by (with_reducible repeat (first | apply Kd.S_alloc | apply Kd.S_drewN | apply Kd.S_drew)); exact (Kd.S_mono (Kd.S_far (p := ⟨gb393, 1, none⟩) (Kd.S_far (p := ⟨gb393, 0, none⟩) (Kd.S_types HO391.out BK393.out (by decide)) (fun _ hk => hk.2) (.slice Ao15 t386.length co15)) (fun _ hk => hk.2) (.slice Ao17 t389.length co17)) (fun _ h_ => h_.1)))); (case side4 => exact (Kd.S_reads' HO391.out).2.1); rintro e w18 ⟨v396, v399, rfl, ho0, ho1, hb⟩; refine ⟨_, rfl, ?_⟩; have n0_ := Aside0.mk (Kd.S_mono (Kd.S_told (Kd.S_told (Kd.S_old (by (with_reducible repeat (first | apply Kd.S_alloc | apply Kd.S_drewN | apply Kd.S_drew)); exact (Kd.S_mono (Kd.S_far (p := ⟨gb393, 1, none⟩) (Kd.S_far (p := ⟨gb393, 0, none⟩) (Kd.S_types HO388.out BK393.out (by decide)) (fun _ hk => hk.2) (.slice Ao15 t386.length co15)) (fun _ hk => hk.2) (.slice Ao17 t389.length co17)) (fun _ h_ => h_.1))) hb) (Kd.S_base ho0)) (Kd.S_base ho1)) (fun _ h_ => h_.1)); have n1_ := Aside0.mk (Kd.S_mono (Kd.S_told (Kd.S_told (Kd.S_old (by (with_reducible repeat (first | apply Kd.S_alloc | apply Kd.S_drewN | apply Kd.S_drew)); exact (Kd.S_mono (Kd.S_far (p := ⟨gb393, 1, none⟩) (Kd.S_far (p := ⟨gb393, 0, none⟩) (Kd.S_types HO391.out BK393.out (by decide)) (fun _ hk => hk.2) (.slice Ao15 t386.length co15)) (fun _ hk => hk.2) (.slice Ao17 t389.length co17)) (fun _ h_ => h_.1))) hb) (Kd.S_base ho0)) (Kd.S_base ho1)) (fun _ h_ => h_.1)); have n2_ := Aside0.mk (Kd.S_lower (Kd.S_new' (Kd.S_new' ho0 (Kd.S_lt (by (with_reducible repeat (first | apply Kd.S_alloc | apply Kd.S_drewN | apply Kd.S_drew)); exact (Kd.S_mono (Kd.S_far (p := ⟨gb393, 1, none⟩) (Kd.S_far (p := ⟨gb393, 0, none⟩) (Kd.S_types HO388.out BK393.out (by decide)) (fun _ hk => hk.2) (.slice Ao15 t386.length co15)) (fun _ hk => hk.2) (.slice Ao17 t389.length co17)) (fun _ h_ => h_.1))))) (Kd.S_lt (by (with_reducible repeat (first | apply Kd.S_alloc | apply Kd.S_drewN | apply Kd.S_drew)); exact (Kd.S_mono (Kd.S_far (p := ⟨gb393, 1, none⟩) (Kd.S_far (p := ⟨gb393, 0, none⟩) (Kd.S_types HO391.out BK393.out (by decide)) (fun _ hk => hk.2) (.slice Ao15 t386.length co15)) (fun _ hk => hk.2) (.slice Ao17 t389.length co17)) (fun _ h_ => h_.1))))) (below_size (by repeat (first | (with_reducible first | exact HB.out | apply below_alloc | apply pw_below_drewN | apply below_drew1 | refine below_set ?_ GE393.out) | exact HB.out)))); have n3_ := Aside0.mk (Kd.S_lower (Kd.S_new' (Kd.S_new' ho1 (Kd.S_lt (by (with_reducible repeat (first | apply Kd.S_alloc | apply Kd.S_drewN | apply Kd.S_drew)); exact (Kd.S_mono (Kd.S_far (p := ⟨gb393, 1, none⟩) (Kd.S_far (p := ⟨gb393, 0, none⟩) (Kd.S_types HO388.out BK393.out (by decide)) (fun _ hk => hk.2) (.slice Ao15 t386.length co15)) (fun _ hk => hk.2) (.slice Ao17 t389.length co17)) (fun _ h_ => h_.1))))) (Kd.S_lt (by (with_reducible repeat (first | apply Kd.S_alloc | apply Kd.S_drewN | apply Kd.S_drew)); exact (Kd.S_mono (Kd.S_far (p := ⟨gb393, 1, none⟩) (Kd.S_far (p := ⟨gb393, 0, none⟩) (Kd.S_types HO391.out BK393.out (by decide)) (fun _ hk => hk.2) (.slice Ao15 t386.length co15)) (fun _ hk => hk.2) (.slice Ao17 t389.length co17)) (fun _ h_ => h_.1))))) (below_size (by repeat (first | (with_reducible first | exact HB.out | apply below_alloc | apply pw_below_drewN | apply below_drew1 | refine below_set ?_ GE393.out) | exact HB.out)))); have n4_ := Aside0.mk (blk_below (g := gb393) (o := .cells #[.slice Ao15 t386.length co15, .slice Ao17 t389.length co17] 45 (0, 0)) (by (with_reducible repeat (first | refine blk_drewN ?_ _ | refine blk_drew ?_ | refine blk_alloc ?_ _)); refine blk_put (cs := #[.slice Ao15 t386.length co15, .slice none 0 0]) ?_ 1 _ rfl; (with_reducible repeat (first | refine blk_drewN ?_ _ | refine blk_drew ?_ | refine blk_alloc ?_ _)); refine blk_put (cs := #[.slice none 0 0, .slice none 0 0]) ?_ 0 _ rfl; (with_reducible repeat (first | refine blk_drewN ?_ _ | refine blk_drew ?_ | refine blk_alloc ?_ _)); exact BK393.out) hb); have n5_ := Aside0.mk (below_step (by repeat (first | (with_reducible first | exact HB.out | apply below_alloc | apply pw_below_drewN | apply below_drew1 | refine below_set ?_ GE393.out) | exact HB.out)) hb); clear HO388; clear HO391; clear BK393; clear HB; have HO388 := n0_; have HO391 := n1_; have HO397 := n2_; have HO400 := n3_; have BK393 := n4_; have HB := n5_; clear n0_ n1_ n2_ n3_ n4_ n5_; (try clear hb); (try clear hb2); (try clear hk); (try clear hi); (try clear ho0); (try clear ho1)) | ((with_reducible refine gate_dst (N := 5) rfl ?_); refine box_event ?hg (N := 5) ?hd (cs := #[.slice none 0 0, .slice none 0 0]) (t := 45) ?hr ?_; (case hd => rfl); (case hg => rfl); (case hr => first | (go_simp; done) | (go_simp; rfl)); intro gb401 hg w19 hbox hb; have n0_ := Aside0.mk (Kd.S_below (by (with_reducible repeat (first | apply Kd.S_alloc | apply Kd.S_drewN | apply Kd.S_drew)); exact HO388.out) hb); have n1_ := Aside0.mk (Kd.S_below (by (with_reducible repeat (first | apply Kd.S_alloc | apply Kd.S_drewN | apply Kd.S_drew)); exact HO391.out) hb); have n2_ := Aside0.mk (Kd.S_below (by (with_reducible repeat (first | apply Kd.S_alloc | apply Kd.S_drewN | apply Kd.S_drew)); exact HO397.out) hb); have n3_ := Aside0.mk (Kd.S_below (by (with_reducible repeat (first | apply Kd.S_alloc | apply Kd.S_drewN | apply Kd.S_drew)); exact HO400.out) hb); have n4_ := Aside0.mk (blk_below (g := gb393) (o := .cells #[.slice Ao15 t386.length co15, .slice Ao17 t389.length co17] 45 (0, 0)) (by (with_reducible repeat (first | refine blk_drewN ?_ _ | refine blk_drew ?_ | refine blk_alloc ?_ _)); exact BK393.out) hb); have n5_ := Aside0.mk (below_step (by repeat (first | (with_reducible first | exact HB.out | apply below_alloc | apply pw_below_drewN | apply below_drew1 | refine below_set ?_ GE393.out) | exact HB.out)) hb); have n6_ := Aside0.mk (hbox); have n7_ := Aside0.mk ((by rw [hg]; exact (below_size (by repeat (first | (with_reducible first | exact HB.out | apply below_alloc | apply pw_below_drewN | apply below_drew1 | refine below_set ?_ GE393.out) | exact HB.out))) : w.heap.size ≤ gb401)); have n8_ := Aside0.mk ((by rw [hg]; exact (below_size (by repeat (first | (with_reducible first | exact HB.out | apply below_alloc | apply pw_below_drewN | apply below_drew1 | refine below_set ?_ GE393.out) | exact HB.out))) : w.heap.size ≤ gb401)); have n9_ := Aside0.mk ((by rw [hg]; exact Nat.ne_of_lt (blk_lt (g := gb393) (o := .cells #[.slice Ao15 t386.length co15, .slice Ao17 t389.length co17] 45 (0, 0)) (by (with_reducible repeat (first | refine blk_drewN ?_ _ | refine blk_drew ?_ | refine blk_alloc ?_ _)); exact BK393.out)) : gb393 ≠ gb401)); have n10_ := Aside0.mk ((by rw [hg]; exact Nat.ne_of_gt (blk_lt (g := gb393) (o := .cells #[.slice Ao15 t386.length co15, .slice Ao17 t389.length co17] 45 (0, 0)) (by (with_reducible repeat (first | refine blk_drewN ?_ _ | refine blk_drew ?_ | refine blk_alloc ?_ _)); exact BK393.out)) : gb401 ≠ gb393)); clear HO388; clear HO391; clear HO397; clear HO400; clear BK393; clear HB; have HO388 := n0_; have HO391 := n1_; have HO397 := n2_; have HO400 := n3_; have BK393 := n4_; have HB := n5_; have BK401 := n6_; have GW401 := n7_; have GE401 := n8_; have NB393_401 := n9_; have NB401_393 := n10_; clear n0_ n1_ n2_ n3_ n4_ n5_ n6_ n7_ n8_ n9_ n10_; clear hb hbox hg; obtain ⟨Ao20, co20, eo20⟩ := Kd.S_slice HO397.out; subst eo20; have hnb21 := NB401_393.out; have hnc21 := NB393_401.out; have hcz22_0 : w19.cell? ⟨gb401, 0, none⟩ = some (.slice none 0 0) := (blk_cell BK401.out 0).trans rfl; have hcz22_1 : w19.cell? ⟨gb401, 1, none⟩ = some (.slice none 0 0) := (blk_cell BK401.out 1).trans rfl; have hfz22_0 := blk_frozen BK401.out 0; have hfz22_1 := blk_frozen BK401.out 1; obtain ⟨Ao23, co23, eo23⟩ := Kd.S_slice HO400.out; subst eo23))
            (try simp only [Act.put, List.setIfInBounds_toArray, List.set_cons_zero, List.set_cons_succ])
            go_cut [46] (fun v46 wc => ∃ (kq : Nat) (x46_11 : Bool), v46 = .bool x46_11 ∧ Aside0 (locksteplaw06_GraphTurned.j1 kq l0 x46_11 t386 t389 t395 t398 = some true) ∧ Aside0 (kq ≤ kj3) ∧ Aside0 (Kd.S (Kd.slice 3 (Kd.int .i64)) 33 wc w.heap.size (fun k_ => some k_ ≠ ((.slice Ao17 t389.length co17) : Value).ownBlock ∧ some k_ ≠ ((.slice Ao20 t395.length co20) : Value).ownBlock ∧ some k_ ≠ ((.slice Ao23 t398.length co23) : Value).ownBlock) (.slice Ao15 t386.length co15) t386) ∧ Aside0 (Kd.S (Kd.slice 3 (Kd.int .i64)) 33 wc w.heap.size (fun k_ => some k_ ≠ ((.slice Ao15 t386.length co15) : Value).ownBlock ∧ some k_ ≠ ((.slice Ao20 t395.length co20) : Value).ownBlock ∧ some k_ ≠ ((.slice Ao23 t398.length co23) : Value).ownBlock) (.slice Ao17 t389.length co17) t389) ∧ Aside0 (Kd.S (Kd.slice 3 (Kd.int .i64)) 33 wc w.heap.size (fun k_ => some k_ ≠ ((.slice Ao15 t386.length co15) : Value).ownBlock ∧ some k_ ≠ ((.slice Ao17 t389.length co17) : Value).ownBlock ∧ some k_ ≠ ((.slice Ao23 t398.length co23) : Value).ownBlock) (.slice Ao20 t395.length co20) t395) ∧ Aside0 (Kd.S (Kd.slice 3 (Kd.int .i64)) 33 wc w.heap.size (fun k_ => some k_ ≠ ((.slice Ao15 t386.length co15) : Value).ownBlock ∧ some k_ ≠ ((.slice Ao17 t389.length co17) : Value).ownBlock ∧ some k_ ≠ ((.slice Ao20 t395.length co20) : Value).ownBlock) (.slice Ao23 t398.length co23) t398) ∧ Aside0 (wc.heap[gb393]? = some (.cells #[(.slice Ao15 t386.length co15), (.slice Ao17 t389.length co17)] 45 (0, 0))) ∧ Aside0 (wc.heap[gb401]? = some (.cells #[(.slice Ao20 t395.length co20), (.slice Ao23 t398.length co23)] 45 (0, 0))) ∧ Aside0 (Below w.heap.size w wc))
            case first =>
              have H := HC12.out
              clear HC12
              replace H := Option.bind_eq_some_iff.mp H
              obtain ⟨⟨t402, t405⟩, A240, H⟩ := H
              replace H : ((lockstepref06_Same.f kj3 t402 t405 t386 t389).bind fun t408 => (if t408 = true then ((graph_May.f kj3 t395 t398).bind fun t409 => (locksteplaw06_GraphTurned.j1 kj3 l0 (!t409) t386 t389 t395 t398)) else (locksteplaw06_GraphTurned.j1 kj3 l0 true t386 t389 t395 t398))) = some true := H
              have A24 := Aside0.mk A240
              clear A240
              replace H := Option.bind_eq_some_iff.mp H
              obtain ⟨t408, A250, H⟩ := H
              replace H : (if t408 = true then ((graph_May.f kj3 t395 t398).bind fun t409 => (locksteplaw06_GraphTurned.j1 kj3 l0 (!t409) t386 t389 t395 t398)) else (locksteplaw06_GraphTurned.j1 kj3 l0 true t386 t389 t395 t398)) = some true := H
              have A25 := Aside0.mk A250
              clear A250
              by_cases c26 : t408 = true
              · subst c26
                have H1 : ((graph_May.f kj3 t395 t398).bind fun t409 => (locksteplaw06_GraphTurned.j1 kj3 l0 (!t409) t386 t389 t395 t398)) = some true := by rw [if_pos rfl] at H; exact H
                clear H
                have H := H1
                clear H1
                replace H := Option.bind_eq_some_iff.mp H
                obtain ⟨t409, A270, H⟩ := H
                replace H : (locksteplaw06_GraphTurned.j1 kj3 l0 (!t409) t386 t389 t395 t398) = some true := H
                have A27 := Aside0.mk A270
                clear A270
                have H' := Aside0.mk H
                clear H
                try go_wp2
                have n0_ : Aside0 (Kd.S (Kd.slice 3 (Kd.int .i64)) 33 ((w19.setCell ⟨gb401, 0, none⟩ (.slice Ao20 t395.length co20)).setCell ⟨gb401, 1, none⟩ (.slice Ao23 t398.length co23)) w.heap.size (fun k_ => some k_ ≠ (.slice Ao17 t389.length co17 : Value).ownBlock ∧ some k_ ≠ (.slice Ao20 t395.length co20 : Value).ownBlock ∧ some k_ ≠ (.slice Ao23 t398.length co23 : Value).ownBlock) (.slice Ao15 t386.length co15) t386) := ⟨by (with_reducible repeat (first | apply Kd.S_alloc | apply Kd.S_drewN | apply Kd.S_drew)); exact Kd.S_mono (Kd.S_far (p := ⟨gb401, 1, none⟩) (Kd.S_far (p := ⟨gb401, 0, none⟩) (Kd.S_types HO388.out BK401.out (by decide)) (fun _ hk => hk.2) (.slice Ao20 t395.length co20)) (fun _ hk => hk.2) (.slice Ao23 t398.length co23)) (fun _ hk => ⟨hk.1.1.1, ⟨hk.1.1.2, hk.1.2⟩⟩)⟩
                have n1_ : Aside0 (Kd.S (Kd.slice 3 (Kd.int .i64)) 33 ((w19.setCell ⟨gb401, 0, none⟩ (.slice Ao20 t395.length co20)).setCell ⟨gb401, 1, none⟩ (.slice Ao23 t398.length co23)) w.heap.size (fun k_ => some k_ ≠ (.slice Ao15 t386.length co15 : Value).ownBlock ∧ some k_ ≠ (.slice Ao20 t395.length co20 : Value).ownBlock ∧ some k_ ≠ (.slice Ao23 t398.length co23 : Value).ownBlock) (.slice Ao17 t389.length co17) t389) := ⟨by (with_reducible repeat (first | apply Kd.S_alloc | apply Kd.S_drewN | apply Kd.S_drew)); exact Kd.S_mono (Kd.S_far (p := ⟨gb401, 1, none⟩) (Kd.S_far (p := ⟨gb401, 0, none⟩) (Kd.S_types HO391.out BK401.out (by decide)) (fun _ hk => hk.2) (.slice Ao20 t395.length co20)) (fun _ hk => hk.2) (.slice Ao23 t398.length co23)) (fun _ hk => ⟨hk.1.1.1, ⟨hk.1.1.2, hk.1.2⟩⟩)⟩
                have n2_ : Aside0 (Kd.S (Kd.slice 3 (Kd.int .i64)) 33 ((w19.setCell ⟨gb401, 0, none⟩ (.slice Ao20 t395.length co20)).setCell ⟨gb401, 1, none⟩ (.slice Ao23 t398.length co23)) w.heap.size (fun k_ => some k_ ≠ (.slice Ao15 t386.length co15 : Value).ownBlock ∧ some k_ ≠ (.slice Ao17 t389.length co17 : Value).ownBlock ∧ some k_ ≠ (.slice Ao23 t398.length co23 : Value).ownBlock) (.slice Ao20 t395.length co20) t395) := ⟨by (with_reducible repeat (first | apply Kd.S_alloc | apply Kd.S_drewN | apply Kd.S_drew)); exact Kd.S_mono (Kd.S_far (p := ⟨gb401, 1, none⟩) (Kd.S_far (p := ⟨gb401, 0, none⟩) (Kd.S_types HO397.out BK401.out (by decide)) (fun _ hk => hk.2) (.slice Ao20 t395.length co20)) (fun _ hk => hk.2) (.slice Ao23 t398.length co23)) (fun _ hk => ⟨hk.1.1.2, ⟨hk.1.2, hk.1.1.1⟩⟩)⟩
                have n3_ : Aside0 (Kd.S (Kd.slice 3 (Kd.int .i64)) 33 ((w19.setCell ⟨gb401, 0, none⟩ (.slice Ao20 t395.length co20)).setCell ⟨gb401, 1, none⟩ (.slice Ao23 t398.length co23)) w.heap.size (fun k_ => some k_ ≠ (.slice Ao15 t386.length co15 : Value).ownBlock ∧ some k_ ≠ (.slice Ao17 t389.length co17 : Value).ownBlock ∧ some k_ ≠ (.slice Ao20 t395.length co20 : Value).ownBlock) (.slice Ao23 t398.length co23) t398) := ⟨by (with_reducible repeat (first | apply Kd.S_alloc | apply Kd.S_drewN | apply Kd.S_drew)); exact Kd.S_mono (Kd.S_far (p := ⟨gb401, 1, none⟩) (Kd.S_far (p := ⟨gb401, 0, none⟩) (Kd.S_types HO400.out BK401.out (by decide)) (fun _ hk => hk.2) (.slice Ao20 t395.length co20)) (fun _ hk => hk.2) (.slice Ao23 t398.length co23)) (fun _ hk => ⟨hk.1.1.2, ⟨hk.1.2, hk.1.1.1⟩⟩)⟩
                have n4_ : Aside0 (((w19.setCell ⟨gb401, 0, none⟩ (.slice Ao20 t395.length co20)).setCell ⟨gb401, 1, none⟩ (.slice Ao23 t398.length co23)).heap[gb393]? = some (.cells #[.slice Ao15 t386.length co15, .slice Ao17 t389.length co17] 45 (0, 0))) := ⟨by (with_reducible repeat (first | refine blk_drewN ?_ _ | refine blk_drew ?_ | refine blk_alloc ?_ _)); refine blk_far ?_ NB393_401.out _; (with_reducible repeat (first | refine blk_drewN ?_ _ | refine blk_drew ?_ | refine blk_alloc ?_ _)); refine blk_far ?_ NB393_401.out _; (with_reducible repeat (first | refine blk_drewN ?_ _ | refine blk_drew ?_ | refine blk_alloc ?_ _)); exact BK393.out⟩
                have n5_ : Aside0 (((w19.setCell ⟨gb401, 0, none⟩ (.slice Ao20 t395.length co20)).setCell ⟨gb401, 1, none⟩ (.slice Ao23 t398.length co23)).heap[gb401]? = some (.cells #[.slice Ao20 t395.length co20, .slice Ao23 t398.length co23] 45 (0, 0))) := ⟨by (with_reducible repeat (first | refine blk_drewN ?_ _ | refine blk_drew ?_ | refine blk_alloc ?_ _)); refine blk_put (cs := #[.slice Ao20 t395.length co20, .slice none 0 0]) ?_ 1 _ rfl; (with_reducible repeat (first | refine blk_drewN ?_ _ | refine blk_drew ?_ | refine blk_alloc ?_ _)); refine blk_put (cs := #[.slice none 0 0, .slice none 0 0]) ?_ 0 _ rfl; (with_reducible repeat (first | refine blk_drewN ?_ _ | refine blk_drew ?_ | refine blk_alloc ?_ _)); exact BK401.out⟩
                have n6_ : Aside0 (Below w.heap.size w ((w19.setCell ⟨gb401, 0, none⟩ (.slice Ao20 t395.length co20)).setCell ⟨gb401, 1, none⟩ (.slice Ao23 t398.length co23))) := ⟨by repeat (first | (with_reducible first | exact HB.out | apply below_alloc | apply pw_below_drewN | apply below_drew1 | refine below_set ?_ GE393.out | refine below_set ?_ GE401.out) | exact HB.out)⟩
                (try clear HO388)
                (try clear HO391)
                (try clear HO397)
                (try clear HO400)
                (try clear BK393)
                (try clear BK401)
                (try clear HB)
                generalize ((w19.setCell ⟨gb401, 0, none⟩ (.slice Ao20 t395.length co20)).setCell ⟨gb401, 1, none⟩ (.slice Ao23 t398.length co23)) = w28 at n0_ n1_ n2_ n3_ n4_ n5_ n6_ ⊢
                have HO388 := n0_
                have HO391 := n1_
                have HO397 := n2_
                have HO400 := n3_
                have BK393 := n4_
                have BK401 := n5_
                have HB := n6_
                clear n0_ n1_ n2_ n3_ n4_ n5_ n6_
                have n0_ := Aside0.mk (Kd.S_drew HO388.out)
                have n1_ := Aside0.mk (Kd.S_drew HO391.out)
                have n2_ := Aside0.mk (Kd.S_drew HO397.out)
                have n3_ := Aside0.mk (Kd.S_drew HO400.out)
                have n4_ := Aside0.mk (blk_drew BK393.out)
                have n5_ := Aside0.mk (blk_drew BK401.out)
                have n6_ := Aside0.mk (below_drew1 HB.out)
                clear HO388
                clear HO391
                clear HO397
                clear HO400
                clear BK393
                clear BK401
                clear HB
                have HO388 := n0_
                have HO391 := n1_
                have HO397 := n2_
                have HO400 := n3_
                have BK393 := n4_
                have BK401 := n5_
                have HB := n6_
                clear n0_ n1_ n2_ n3_ n4_ n5_ n6_
                refine start_ (n := 10) (S := fun w' => w'.cell? ⟨gb401, 0, none⟩ = some (.slice Ao20 t395.length co20) ∧ w'.cell? ⟨gb401, 1, none⟩ = some (.slice Ao23 t398.length co23) ∧ w'.cell? ⟨gb393, 0, none⟩ = some (.slice Ao15 t386.length co15) ∧ w'.cell? ⟨gb393, 1, none⟩ = some (.slice Ao17 t389.length co17)) (ds := []) #[false, false, false, false, false, false, false, false, false, false] (by kernel_rfl) rfl rfl ⟨(blk_cell BK401.out 0).trans rfl, (blk_cell BK401.out 1).trans rfl, (blk_cell BK393.out 0).trans rfl, (blk_cell BK393.out 1).trans rfl⟩ (fun hHeld => ?_); refine with_tabW locksteplaw06_GraphTurned.tab9 locksteplaw06_GraphTurned.bits9 (fun HT_ HW_ => ?_)
                generalize w28.drew = w29 at HO388 HO391 HO397 HO400 BK393 BK401 HB hHeld ⊢
                refine take_ (i := 0) (N := some 37) (v := ?_) (a' := ?_) #[true, false, false, false, false, false, false, false, false, false] rfl rfl (take_ofW HT_.out HW_.out (by kernel_rfl)) (fun _ _ _ h => h) (Or.inl ⟨by rfl, ?_⟩) hHeld ?_ ?_
                rotate_left
                · rintro w' ⟨s0, s1, s2, s3⟩
                  go_simp
                  with_reducible rfl
                rotate_left
                · simp only [Act.put, List.setIfInBounds_toArray, List.set_cons_zero, List.set_cons_succ, i64_w, i32_w]
                  rfl
                refine take_ (i := 2) (N := some 39) (v := ?_) (a' := ?_) #[true, false, true, false, false, false, false, false, false, false] rfl rfl (take_ofW HT_.out HW_.out (by kernel_rfl)) (fun _ _ _ h => h) (Or.inl ⟨by rfl, ?_⟩) hHeld ?_ ?_
                rotate_left
                · rintro w' ⟨s0, s1, s2, s3⟩
                  go_simp
                  with_reducible rfl
                rotate_left
                · simp only [Act.put, List.setIfInBounds_toArray, List.set_cons_zero, List.set_cons_succ, i64_w, i32_w]
                  rfl
                refine one_ (i := 1) (N := some 38) #[true, true, true, false, false, false, false, false, false, false] rfl rfl (one_of HT_.out (by kernel_rfl)) (by decide) (fun K hK => ?_)
                refine goes_ Try.func31 (by kernel_rfl) rfl #[.agg #[.slice Ao20 t395.length co20, .slice Ao23 t398.length co23]] (by rfl) rfl rfl (by (try simp only [List.map_toArray, List.map_cons, List.map_nil]); first | done | rfl | (simp only [List.length_drop, List.length_take]; rfl)) ?_
                with_reducible refine (graph_Turned.calls kj3 _ _ t395 _ _ t398 t402 t405 _ ?side1 ?side2 ?side3 ?side4 A24.out).mono ?_
                (case side1 => repeat (first | exact (Kd.S_reads' HO397.out).2.2 | (with_reducible refine Kd.C_alloc ?_ _) | (with_reducible refine Kd.C_drewN ?_ _) | (with_reducible refine Kd.C_drew ?_)))
                (case side2 => exact (Kd.S_reads' HO397.out).2.1)
                (case side3 => repeat (first | exact (Kd.S_reads' HO400.out).2.2 | (with_reducible refine Kd.C_alloc ?_ _) | (with_reducible refine Kd.C_drewN ?_ _) | (with_reducible refine Kd.C_drew ?_)))
                (case side4 => exact (Kd.S_reads' HO400.out).2.1)
                rintro e w30 ⟨v403, v406, rfl, ho0, ho1, hb⟩
                refine ⟨_, rfl, ?_⟩
                have n0_ := Aside0.mk (Kd.S_mono (Kd.S_told (Kd.S_told (Kd.S_old (by (with_reducible repeat (first | apply Kd.S_alloc | apply Kd.S_drewN | apply Kd.S_drew)); exact HO388.out) hb) (Kd.S_base ho0)) (Kd.S_base ho1)) (fun _ h_ => h_.1))
                have n1_ := Aside0.mk (Kd.S_mono (Kd.S_told (Kd.S_told (Kd.S_old (by (with_reducible repeat (first | apply Kd.S_alloc | apply Kd.S_drewN | apply Kd.S_drew)); exact HO391.out) hb) (Kd.S_base ho0)) (Kd.S_base ho1)) (fun _ h_ => h_.1))
                have n2_ := Aside0.mk (Kd.S_mono (Kd.S_told (Kd.S_told (Kd.S_old (by (with_reducible repeat (first | apply Kd.S_alloc | apply Kd.S_drewN | apply Kd.S_drew)); exact HO397.out) hb) (Kd.S_base ho0)) (Kd.S_base ho1)) (fun _ h_ => h_.1))
                have n3_ := Aside0.mk (Kd.S_mono (Kd.S_told (Kd.S_told (Kd.S_old (by (with_reducible repeat (first | apply Kd.S_alloc | apply Kd.S_drewN | apply Kd.S_drew)); exact HO400.out) hb) (Kd.S_base ho0)) (Kd.S_base ho1)) (fun _ h_ => h_.1))
                have n4_ := Aside0.mk (Kd.S_lower (Kd.S_new' (Kd.S_new' (Kd.S_new' (Kd.S_new' ho0 (Kd.S_lt (by (with_reducible repeat (first | apply Kd.S_alloc | apply Kd.S_drewN | apply Kd.S_drew)); exact HO388.out))) (Kd.S_lt (by (with_reducible repeat (first | apply Kd.S_alloc | apply Kd.S_drewN | apply Kd.S_drew)); exact HO391.out))) (Kd.S_lt (by (with_reducible repeat (first | apply Kd.S_alloc | apply Kd.S_drewN | apply Kd.S_drew)); exact HO397.out))) (Kd.S_lt (by (with_reducible repeat (first | apply Kd.S_alloc | apply Kd.S_drewN | apply Kd.S_drew)); exact HO400.out))) (below_size (by repeat (first | (with_reducible first | exact HB.out | apply below_alloc | apply pw_below_drewN | apply below_drew1 | refine below_set ?_ GE393.out | refine below_set ?_ GE401.out) | exact HB.out))))
                have n5_ := Aside0.mk (Kd.S_lower (Kd.S_new' (Kd.S_new' (Kd.S_new' (Kd.S_new' ho1 (Kd.S_lt (by (with_reducible repeat (first | apply Kd.S_alloc | apply Kd.S_drewN | apply Kd.S_drew)); exact HO388.out))) (Kd.S_lt (by (with_reducible repeat (first | apply Kd.S_alloc | apply Kd.S_drewN | apply Kd.S_drew)); exact HO391.out))) (Kd.S_lt (by (with_reducible repeat (first | apply Kd.S_alloc | apply Kd.S_drewN | apply Kd.S_drew)); exact HO397.out))) (Kd.S_lt (by (with_reducible repeat (first | apply Kd.S_alloc | apply Kd.S_drewN | apply Kd.S_drew)); exact HO400.out))) (below_size (by repeat (first | (with_reducible first | exact HB.out | apply below_alloc | apply pw_below_drewN | apply below_drew1 | refine below_set ?_ GE393.out | refine below_set ?_ GE401.out) | exact HB.out))))
                have n6_ := Aside0.mk (blk_below (g := gb393) (o := .cells #[.slice Ao15 t386.length co15, .slice Ao17 t389.length co17] 45 (0, 0)) (by (with_reducible repeat (first | refine blk_drewN ?_ _ | refine blk_drew ?_ | refine blk_alloc ?_ _)); exact BK393.out) hb)
                have n7_ := Aside0.mk (blk_below (g := gb401) (o := .cells #[.slice Ao20 t395.length co20, .slice Ao23 t398.length co23] 45 (0, 0)) (by (with_reducible repeat (first | refine blk_drewN ?_ _ | refine blk_drew ?_ | refine blk_alloc ?_ _)); exact BK401.out) hb)
                have n8_ := Aside0.mk (below_step (by repeat (first | (with_reducible first | exact HB.out | apply below_alloc | apply pw_below_drewN | apply below_drew1 | refine below_set ?_ GE393.out | refine below_set ?_ GE401.out) | exact HB.out)) hb)
                clear HO388
                clear HO391
                clear HO397
                clear HO400
                clear BK393
                clear BK401
                clear HB
                have HO388 := n0_
                have HO391 := n1_
                have HO397 := n2_
                have HO400 := n3_
                have HO404 := n4_
                have HO407 := n5_
                have BK393 := n6_
                have BK401 := n7_
                have HB := n8_
                clear n0_ n1_ n2_ n3_ n4_ n5_ n6_ n7_ n8_
                (try clear hb)
                (try clear hb2)
                (try clear hk)
                (try clear hi)
                (try clear ho0)
                (try clear ho1)
                obtain ⟨Ao31, co31, eo31⟩ := Kd.S_slice HO404.out
                (first | subst eo31 | (injection eo31 with f1_ f2_ f3_; have f4_ := f1_.symm; have f5_ := f3_.symm; clear f1_ f2_ f3_; subst f4_; subst f5_))
                obtain ⟨Ao32, co32, eo32⟩ := Kd.S_slice HO407.out
                (first | subst eo32 | (injection eo32 with f1_ f2_ f3_; have f4_ := f1_.symm; have f5_ := f3_.symm; clear f1_ f2_ f3_; subst f4_; subst f5_))
                refine hK.out _ _ ⟨(blk_cell BK401.out 0).trans rfl, (blk_cell BK401.out 1).trans rfl, (blk_cell BK393.out 0).trans rfl, (blk_cell BK393.out 1).trans rfl⟩ (fun hHeld => ?_)
                clear hK K
                refine norm_ (a' := ?_) ?_ ?_
                rotate_left
                · show Act.put _ (some 38) _ = _
                  simp only [Act.put, List.setIfInBounds_toArray, List.set_cons_zero, List.set_cons_succ, i64_w, i32_w]
                  rfl
                refine one_ (i := 3) (N := some 40) #[true, true, true, true, false, false, false, false, false, false] rfl rfl (one_of HT_.out (by kernel_rfl)) (by decide) (fun K hK => ?_)
                refine goes_ Try.func28 (by kernel_rfl) rfl #[.agg #[.slice Ao31 t402.length co31, .slice Ao32 t405.length co32], .agg #[.slice Ao15 t386.length co15, .slice Ao17 t389.length co17]] (by rfl) rfl rfl (by (try simp only [List.map_toArray, List.map_cons, List.map_nil]); first | done | rfl | (simp only [List.length_drop, List.length_take]; rfl)) ?_
                with_reducible refine (lockstepref06_Same.calls kj3 _ _ t402 _ _ t405 _ _ t386 _ _ t389 true _ ?side1 ?side2 ?side3 ?side4 ?side5 ?side6 ?side7 ?side8 A25.out).mono ?_
                (case side1 => repeat (first | exact (Kd.S_reads' HO404.out).2.2 | (with_reducible refine Kd.C_alloc ?_ _) | (with_reducible refine Kd.C_drewN ?_ _) | (with_reducible refine Kd.C_drew ?_)))
                (case side2 => exact (Kd.S_reads' HO404.out).2.1)
                (case side3 => repeat (first | exact (Kd.S_reads' HO407.out).2.2 | (with_reducible refine Kd.C_alloc ?_ _) | (with_reducible refine Kd.C_drewN ?_ _) | (with_reducible refine Kd.C_drew ?_)))
                (case side4 => exact (Kd.S_reads' HO407.out).2.1)
                (case side5 => repeat (first | exact (Kd.S_reads' HO388.out).2.2 | (with_reducible refine Kd.C_alloc ?_ _) | (with_reducible refine Kd.C_drewN ?_ _) | (with_reducible refine Kd.C_drew ?_)))
                (case side6 => exact (Kd.S_reads' HO388.out).2.1)
                (case side7 => repeat (first | exact (Kd.S_reads' HO391.out).2.2 | (with_reducible refine Kd.C_alloc ?_ _) | (with_reducible refine Kd.C_drewN ?_ _) | (with_reducible refine Kd.C_drew ?_)))
                (case side8 => exact (Kd.S_reads' HO391.out).2.1)
                rintro e w33 ⟨rfl, hb⟩
                refine ⟨_, rfl, ?_⟩
                have n0_ := Aside0.mk (Kd.S_below (by (with_reducible repeat (first | apply Kd.S_alloc | apply Kd.S_drewN | apply Kd.S_drew)); exact HO388.out) hb)
                have n1_ := Aside0.mk (Kd.S_below (by (with_reducible repeat (first | apply Kd.S_alloc | apply Kd.S_drewN | apply Kd.S_drew)); exact HO391.out) hb)
                have n2_ := Aside0.mk (Kd.S_below (by (with_reducible repeat (first | apply Kd.S_alloc | apply Kd.S_drewN | apply Kd.S_drew)); exact HO397.out) hb)
                have n3_ := Aside0.mk (Kd.S_below (by (with_reducible repeat (first | apply Kd.S_alloc | apply Kd.S_drewN | apply Kd.S_drew)); exact HO400.out) hb)
                have n4_ := Aside0.mk (Kd.S_below (by (with_reducible repeat (first | apply Kd.S_alloc | apply Kd.S_drewN | apply Kd.S_drew)); exact HO404.out) hb)
                have n5_ := Aside0.mk (Kd.S_below (by (with_reducible repeat (first | apply Kd.S_alloc | apply Kd.S_drewN | apply Kd.S_drew)); exact HO407.out) hb)
                have n6_ := Aside0.mk (blk_below (g := gb393) (o := .cells #[.slice Ao15 t386.length co15, .slice Ao17 t389.length co17] 45 (0, 0)) (by (with_reducible repeat (first | refine blk_drewN ?_ _ | refine blk_drew ?_ | refine blk_alloc ?_ _)); exact BK393.out) hb)
                have n7_ := Aside0.mk (blk_below (g := gb401) (o := .cells #[.slice Ao20 t395.length co20, .slice Ao23 t398.length co23] 45 (0, 0)) (by (with_reducible repeat (first | refine blk_drewN ?_ _ | refine blk_drew ?_ | refine blk_alloc ?_ _)); exact BK401.out) hb)
                have n8_ := Aside0.mk (below_step (by repeat (first | (with_reducible first | exact HB.out | apply below_alloc | apply pw_below_drewN | apply below_drew1 | refine below_set ?_ GE393.out | refine below_set ?_ GE401.out) | exact HB.out)) hb)
                clear HO388
                clear HO391
                clear HO397
                clear HO400
                clear HO404
                clear HO407
                clear BK393
                clear BK401
                clear HB
                have HO388 := n0_
                have HO391 := n1_
                have HO397 := n2_
                have HO400 := n3_
                have HO404 := n4_
                have HO407 := n5_
                have BK393 := n6_
                have BK401 := n7_
                have HB := n8_
                clear n0_ n1_ n2_ n3_ n4_ n5_ n6_ n7_ n8_
                (try clear hb)
                (try clear hb2)
                (try clear hk)
                (try clear hi)
                refine hK.out _ _ ⟨(blk_cell BK401.out 0).trans rfl, (blk_cell BK401.out 1).trans rfl, (blk_cell BK393.out 0).trans rfl, (blk_cell BK393.out 1).trans rfl⟩ (fun hHeld => ?_)
                clear hK K
                refine norm_ (a' := ?_) ?_ ?_
                rotate_left
                · show Act.put _ (some 40) _ = _
                  simp only [Act.put, List.setIfInBounds_toArray, List.set_cons_zero, List.set_cons_succ, i64_w, i32_w]
                  rfl
                refine pure_ (i := 4) (N := some 41) (v := ?_) (a' := ?_) #[true, true, true, true, true, false, false, false, false, false] rfl rfl (any_of HT_.out (by kernel_rfl)) (fun _ _ _ h => h) (Or.inl ⟨by rfl, ?_⟩) ?_ ?_
                rotate_left
                · intro w'
                  go_simp
                  with_reducible rfl
                rotate_left
                · simp only [Act.put, List.setIfInBounds_toArray, List.set_cons_zero, List.set_cons_succ, i64_w, i32_w]
                  rfl
                refine pure_ (i := 5) (N := some 42) (v := ?_) (a' := ?_) #[true, true, true, true, true, true, false, false, false, false] rfl rfl (any_of HT_.out (by kernel_rfl)) (fun _ _ _ h => h) (Or.inl ⟨by rfl, ?_⟩) ?_ ?_
                rotate_left
                · intro w'
                  go_simp
                  with_reducible rfl
                rotate_left
                · simp only [Act.put, List.setIfInBounds_toArray, List.set_cons_zero, List.set_cons_succ, i64_w, i32_w]
                  rfl
                refine take_ (i := 6) (N := some 43) (v := ?_) (a' := ?_) #[true, true, true, true, true, true, true, false, false, false] rfl rfl (take_ofW HT_.out HW_.out (by kernel_rfl)) (fun _ _ _ h => h) (Or.inl ⟨by rfl, ?_⟩) hHeld ?_ ?_
                rotate_left
                · rintro w' ⟨s0, s1, s2, s3⟩
                  go_simp
                  with_reducible rfl
                rotate_left
                · simp only [Act.put, List.setIfInBounds_toArray, List.set_cons_zero, List.set_cons_succ, i64_w, i32_w]
                  rfl
                refine one_ (i := 7) (N := some 44) #[true, true, true, true, true, true, true, true, false, false] rfl rfl (one_of HT_.out (by kernel_rfl)) (by decide) (fun K hK => ?_)
                refine goes_ Try.func29 (by kernel_rfl) rfl #[.agg #[.slice Ao20 t395.length co20, .slice Ao23 t398.length co23]] (by rfl) rfl rfl (by (try simp only [List.map_toArray, List.map_cons, List.map_nil]); first | done | rfl | (simp only [List.length_drop, List.length_take]; rfl)) ?_
                with_reducible refine (graph_May.calls kj3 _ _ t395 _ _ t398 t409 _ ?side1 ?side2 ?side3 ?side4 A27.out).mono ?_
                (case side1 => repeat (first | exact (Kd.S_reads' HO397.out).2.2 | (with_reducible refine Kd.C_alloc ?_ _) | (with_reducible refine Kd.C_drewN ?_ _) | (with_reducible refine Kd.C_drew ?_)))
                (case side2 => exact (Kd.S_reads' HO397.out).2.1)
                (case side3 => repeat (first | exact (Kd.S_reads' HO400.out).2.2 | (with_reducible refine Kd.C_alloc ?_ _) | (with_reducible refine Kd.C_drewN ?_ _) | (with_reducible refine Kd.C_drew ?_)))
                (case side4 => exact (Kd.S_reads' HO400.out).2.1)
                rintro e w34 ⟨rfl, hb⟩
                refine ⟨_, rfl, ?_⟩
                have n0_ := Aside0.mk (Kd.S_below (by (with_reducible repeat (first | apply Kd.S_alloc | apply Kd.S_drewN | apply Kd.S_drew)); exact HO388.out) hb)
                have n1_ := Aside0.mk (Kd.S_below (by (with_reducible repeat (first | apply Kd.S_alloc | apply Kd.S_drewN | apply Kd.S_drew)); exact HO391.out) hb)
                have n2_ := Aside0.mk (Kd.S_below (by (with_reducible repeat (first | apply Kd.S_alloc | apply Kd.S_drewN | apply Kd.S_drew)); exact HO397.out) hb)
                have n3_ := Aside0.mk (Kd.S_below (by (with_reducible repeat (first | apply Kd.S_alloc | apply Kd.S_drewN | apply Kd.S_drew)); exact HO400.out) hb)
                have n4_ := Aside0.mk (Kd.S_below (by (with_reducible repeat (first | apply Kd.S_alloc | apply Kd.S_drewN | apply Kd.S_drew)); exact HO404.out) hb)
                have n5_ := Aside0.mk (Kd.S_below (by (with_reducible repeat (first | apply Kd.S_alloc | apply Kd.S_drewN | apply Kd.S_drew)); exact HO407.out) hb)
                have n6_ := Aside0.mk (blk_below (g := gb393) (o := .cells #[.slice Ao15 t386.length co15, .slice Ao17 t389.length co17] 45 (0, 0)) (by (with_reducible repeat (first | refine blk_drewN ?_ _ | refine blk_drew ?_ | refine blk_alloc ?_ _)); exact BK393.out) hb)
                have n7_ := Aside0.mk (blk_below (g := gb401) (o := .cells #[.slice Ao20 t395.length co20, .slice Ao23 t398.length co23] 45 (0, 0)) (by (with_reducible repeat (first | refine blk_drewN ?_ _ | refine blk_drew ?_ | refine blk_alloc ?_ _)); exact BK401.out) hb)
                have n8_ := Aside0.mk (below_step (by repeat (first | (with_reducible first | exact HB.out | apply below_alloc | apply pw_below_drewN | apply below_drew1 | refine below_set ?_ GE393.out | refine below_set ?_ GE401.out) | exact HB.out)) hb)
                clear HO388
                clear HO391
                clear HO397
                clear HO400
                clear HO404
                clear HO407
                clear BK393
                clear BK401
                clear HB
                have HO388 := n0_
                have HO391 := n1_
                have HO397 := n2_
                have HO400 := n3_
                have HO404 := n4_
                have HO407 := n5_
                have BK393 := n6_
                have BK401 := n7_
                have HB := n8_
                clear n0_ n1_ n2_ n3_ n4_ n5_ n6_ n7_ n8_
                (try clear hb)
                (try clear hb2)
                (try clear hk)
                (try clear hi)
                refine hK.out _ _ ⟨(blk_cell BK401.out 0).trans rfl, (blk_cell BK401.out 1).trans rfl, (blk_cell BK393.out 0).trans rfl, (blk_cell BK393.out 1).trans rfl⟩ (fun hHeld => ?_)
                clear hK K
                refine norm_ (a' := ?_) ?_ ?_
                rotate_left
                · show Act.put _ (some 44) _ = _
                  simp only [Act.put, List.setIfInBounds_toArray, List.set_cons_zero, List.set_cons_succ, i64_w, i32_w]
                  rfl
                refine pure_ (i := 8) (N := some 45) (v := ?_) (a' := ?_) #[true, true, true, true, true, true, true, true, true, false] rfl rfl (any_of HT_.out (by kernel_rfl)) (fun _ _ _ h => h) (Or.inl ⟨by rfl, ?_⟩) ?_ ?_
                rotate_left
                · intro w'
                  go_simp
                  with_reducible rfl
                rotate_left
                · simp only [Act.put, List.setIfInBounds_toArray, List.set_cons_zero, List.set_cons_succ, i64_w, i32_w]
                  rfl
                refine pure_ (i := 9) (N := some 46) (v := ?_) (a' := ?_) #[true, true, true, true, true, true, true, true, true, true] rfl rfl (any_of HT_.out (by kernel_rfl)) (fun _ _ _ h => h) (Or.inl ⟨by rfl, ?_⟩) ?_ ?_
                rotate_left
                · intro w'
                  go_simp
                  with_reducible rfl
                rotate_left
                · simp only [Act.put, List.setIfInBounds_toArray, List.set_cons_zero, List.set_cons_succ, i64_w, i32_w]
                  rfl
                refine done_ (done_of HT_.out (by kernel_rfl)) ?_
                try go_wp2
                go_meet
                case rel => exact ⟨_, (!t409), (by first | rfl | exact congrArg (fun b => Ending.returned (Value.bool b)) HR_.out | (simp; done) | (simp [*]; done)), H', ⟨by have := HJ3.out; first | omega | exact Nat.le_refl _⟩, ⟨by (with_reducible repeat (first | apply Kd.S_alloc | apply Kd.S_drewN | apply Kd.S_drew)); exact Kd.S_mono HO388.out (fun _ hk => ⟨hk.1.1.1, ⟨hk.1.1.2.1, hk.1.1.2.2⟩⟩)⟩, ⟨by (with_reducible repeat (first | apply Kd.S_alloc | apply Kd.S_drewN | apply Kd.S_drew)); exact Kd.S_mono HO391.out (fun _ hk => ⟨hk.1.1.1, ⟨hk.1.1.2.1, hk.1.1.2.2⟩⟩)⟩, ⟨by (with_reducible repeat (first | apply Kd.S_alloc | apply Kd.S_drewN | apply Kd.S_drew)); exact Kd.S_mono HO397.out (fun _ hk => ⟨hk.1.1.1, ⟨hk.1.1.2.1, hk.1.1.2.2⟩⟩)⟩, ⟨by (with_reducible repeat (first | apply Kd.S_alloc | apply Kd.S_drewN | apply Kd.S_drew)); exact Kd.S_mono HO400.out (fun _ hk => ⟨hk.1.1.1, ⟨hk.1.1.2.1, hk.1.1.2.2⟩⟩)⟩, ⟨by (with_reducible repeat (first | refine blk_drewN ?_ _ | refine blk_drew ?_ | refine blk_alloc ?_ _)); exact BK393.out⟩, ⟨by (with_reducible repeat (first | refine blk_drewN ?_ _ | refine blk_drew ?_ | refine blk_alloc ?_ _)); exact BK401.out⟩, ⟨by repeat (first | (with_reducible first | exact HB.out | apply below_alloc | apply pw_below_drewN | apply below_drew1 | refine below_set ?_ GE393.out | refine below_set ?_ GE401.out) | exact HB.out)⟩⟩
              · replace c26 := Bool.eq_false_iff.mpr c26
                subst c26
                have H1 : (locksteplaw06_GraphTurned.j1 kj3 l0 true t386 t389 t395 t398) = some true := by rw [if_neg (show ¬ (false = true) by decide)] at H; exact H
                clear H
                have H := H1
                clear H1
                have H' := Aside0.mk H
                clear H
                try go_wp2
                have n0_ : Aside0 (Kd.S (Kd.slice 3 (Kd.int .i64)) 33 ((w19.setCell ⟨gb401, 0, none⟩ (.slice Ao20 t395.length co20)).setCell ⟨gb401, 1, none⟩ (.slice Ao23 t398.length co23)) w.heap.size (fun k_ => some k_ ≠ (.slice Ao17 t389.length co17 : Value).ownBlock ∧ some k_ ≠ (.slice Ao20 t395.length co20 : Value).ownBlock ∧ some k_ ≠ (.slice Ao23 t398.length co23 : Value).ownBlock) (.slice Ao15 t386.length co15) t386) := ⟨by (with_reducible repeat (first | apply Kd.S_alloc | apply Kd.S_drewN | apply Kd.S_drew)); exact Kd.S_mono (Kd.S_far (p := ⟨gb401, 1, none⟩) (Kd.S_far (p := ⟨gb401, 0, none⟩) (Kd.S_types HO388.out BK401.out (by decide)) (fun _ hk => hk.2) (.slice Ao20 t395.length co20)) (fun _ hk => hk.2) (.slice Ao23 t398.length co23)) (fun _ hk => ⟨hk.1.1.1, ⟨hk.1.1.2, hk.1.2⟩⟩)⟩
                have n1_ : Aside0 (Kd.S (Kd.slice 3 (Kd.int .i64)) 33 ((w19.setCell ⟨gb401, 0, none⟩ (.slice Ao20 t395.length co20)).setCell ⟨gb401, 1, none⟩ (.slice Ao23 t398.length co23)) w.heap.size (fun k_ => some k_ ≠ (.slice Ao15 t386.length co15 : Value).ownBlock ∧ some k_ ≠ (.slice Ao20 t395.length co20 : Value).ownBlock ∧ some k_ ≠ (.slice Ao23 t398.length co23 : Value).ownBlock) (.slice Ao17 t389.length co17) t389) := ⟨by (with_reducible repeat (first | apply Kd.S_alloc | apply Kd.S_drewN | apply Kd.S_drew)); exact Kd.S_mono (Kd.S_far (p := ⟨gb401, 1, none⟩) (Kd.S_far (p := ⟨gb401, 0, none⟩) (Kd.S_types HO391.out BK401.out (by decide)) (fun _ hk => hk.2) (.slice Ao20 t395.length co20)) (fun _ hk => hk.2) (.slice Ao23 t398.length co23)) (fun _ hk => ⟨hk.1.1.1, ⟨hk.1.1.2, hk.1.2⟩⟩)⟩
                have n2_ : Aside0 (Kd.S (Kd.slice 3 (Kd.int .i64)) 33 ((w19.setCell ⟨gb401, 0, none⟩ (.slice Ao20 t395.length co20)).setCell ⟨gb401, 1, none⟩ (.slice Ao23 t398.length co23)) w.heap.size (fun k_ => some k_ ≠ (.slice Ao15 t386.length co15 : Value).ownBlock ∧ some k_ ≠ (.slice Ao17 t389.length co17 : Value).ownBlock ∧ some k_ ≠ (.slice Ao23 t398.length co23 : Value).ownBlock) (.slice Ao20 t395.length co20) t395) := ⟨by (with_reducible repeat (first | apply Kd.S_alloc | apply Kd.S_drewN | apply Kd.S_drew)); exact Kd.S_mono (Kd.S_far (p := ⟨gb401, 1, none⟩) (Kd.S_far (p := ⟨gb401, 0, none⟩) (Kd.S_types HO397.out BK401.out (by decide)) (fun _ hk => hk.2) (.slice Ao20 t395.length co20)) (fun _ hk => hk.2) (.slice Ao23 t398.length co23)) (fun _ hk => ⟨hk.1.1.2, ⟨hk.1.2, hk.1.1.1⟩⟩)⟩
                have n3_ : Aside0 (Kd.S (Kd.slice 3 (Kd.int .i64)) 33 ((w19.setCell ⟨gb401, 0, none⟩ (.slice Ao20 t395.length co20)).setCell ⟨gb401, 1, none⟩ (.slice Ao23 t398.length co23)) w.heap.size (fun k_ => some k_ ≠ (.slice Ao15 t386.length co15 : Value).ownBlock ∧ some k_ ≠ (.slice Ao17 t389.length co17 : Value).ownBlock ∧ some k_ ≠ (.slice Ao20 t395.length co20 : Value).ownBlock) (.slice Ao23 t398.length co23) t398) := ⟨by (with_reducible repeat (first | apply Kd.S_alloc | apply Kd.S_drewN | apply Kd.S_drew)); exact Kd.S_mono (Kd.S_far (p := ⟨gb401, 1, none⟩) (Kd.S_far (p := ⟨gb401, 0, none⟩) (Kd.S_types HO400.out BK401.out (by decide)) (fun _ hk => hk.2) (.slice Ao20 t395.length co20)) (fun _ hk => hk.2) (.slice Ao23 t398.length co23)) (fun _ hk => ⟨hk.1.1.2, ⟨hk.1.2, hk.1.1.1⟩⟩)⟩
                have n4_ : Aside0 (((w19.setCell ⟨gb401, 0, none⟩ (.slice Ao20 t395.length co20)).setCell ⟨gb401, 1, none⟩ (.slice Ao23 t398.length co23)).heap[gb393]? = some (.cells #[.slice Ao15 t386.length co15, .slice Ao17 t389.length co17] 45 (0, 0))) := ⟨by (with_reducible repeat (first | refine blk_drewN ?_ _ | refine blk_drew ?_ | refine blk_alloc ?_ _)); refine blk_far ?_ NB393_401.out _; (with_reducible repeat (first | refine blk_drewN ?_ _ | refine blk_drew ?_ | refine blk_alloc ?_ _)); refine blk_far ?_ NB393_401.out _; (with_reducible repeat (first | refine blk_drewN ?_ _ | refine blk_drew ?_ | refine blk_alloc ?_ _)); exact BK393.out⟩
                have n5_ : Aside0 (((w19.setCell ⟨gb401, 0, none⟩ (.slice Ao20 t395.length co20)).setCell ⟨gb401, 1, none⟩ (.slice Ao23 t398.length co23)).heap[gb401]? = some (.cells #[.slice Ao20 t395.length co20, .slice Ao23 t398.length co23] 45 (0, 0))) := ⟨by (with_reducible repeat (first | refine blk_drewN ?_ _ | refine blk_drew ?_ | refine blk_alloc ?_ _)); refine blk_put (cs := #[.slice Ao20 t395.length co20, .slice none 0 0]) ?_ 1 _ rfl; (with_reducible repeat (first | refine blk_drewN ?_ _ | refine blk_drew ?_ | refine blk_alloc ?_ _)); refine blk_put (cs := #[.slice none 0 0, .slice none 0 0]) ?_ 0 _ rfl; (with_reducible repeat (first | refine blk_drewN ?_ _ | refine blk_drew ?_ | refine blk_alloc ?_ _)); exact BK401.out⟩
                have n6_ : Aside0 (Below w.heap.size w ((w19.setCell ⟨gb401, 0, none⟩ (.slice Ao20 t395.length co20)).setCell ⟨gb401, 1, none⟩ (.slice Ao23 t398.length co23))) := ⟨by repeat (first | (with_reducible first | exact HB.out | apply below_alloc | apply pw_below_drewN | apply below_drew1 | refine below_set ?_ GE393.out | refine below_set ?_ GE401.out) | exact HB.out)⟩
                (try clear HO388)
                (try clear HO391)
                (try clear HO397)
                (try clear HO400)
                (try clear BK393)
                (try clear BK401)
                (try clear HB)
                generalize ((w19.setCell ⟨gb401, 0, none⟩ (.slice Ao20 t395.length co20)).setCell ⟨gb401, 1, none⟩ (.slice Ao23 t398.length co23)) = w35 at n0_ n1_ n2_ n3_ n4_ n5_ n6_ ⊢
                have HO388 := n0_
                have HO391 := n1_
                have HO397 := n2_
                have HO400 := n3_
                have BK393 := n4_
                have BK401 := n5_
                have HB := n6_
                clear n0_ n1_ n2_ n3_ n4_ n5_ n6_
                have n0_ := Aside0.mk (Kd.S_drew HO388.out)
                have n1_ := Aside0.mk (Kd.S_drew HO391.out)
                have n2_ := Aside0.mk (Kd.S_drew HO397.out)
                have n3_ := Aside0.mk (Kd.S_drew HO400.out)
                have n4_ := Aside0.mk (blk_drew BK393.out)
                have n5_ := Aside0.mk (blk_drew BK401.out)
                have n6_ := Aside0.mk (below_drew1 HB.out)
                clear HO388
                clear HO391
                clear HO397
                clear HO400
                clear BK393
                clear BK401
                clear HB
                have HO388 := n0_
                have HO391 := n1_
                have HO397 := n2_
                have HO400 := n3_
                have BK393 := n4_
                have BK401 := n5_
                have HB := n6_
                clear n0_ n1_ n2_ n3_ n4_ n5_ n6_
                refine start_ (n := 10) (S := fun w' => w'.cell? ⟨gb401, 0, none⟩ = some (.slice Ao20 t395.length co20) ∧ w'.cell? ⟨gb401, 1, none⟩ = some (.slice Ao23 t398.length co23) ∧ w'.cell? ⟨gb393, 0, none⟩ = some (.slice Ao15 t386.length co15) ∧ w'.cell? ⟨gb393, 1, none⟩ = some (.slice Ao17 t389.length co17)) (ds := []) #[false, false, false, false, false, false, false, false, false, false] (by kernel_rfl) rfl rfl ⟨(blk_cell BK401.out 0).trans rfl, (blk_cell BK401.out 1).trans rfl, (blk_cell BK393.out 0).trans rfl, (blk_cell BK393.out 1).trans rfl⟩ (fun hHeld => ?_); refine with_tabW locksteplaw06_GraphTurned.tab9 locksteplaw06_GraphTurned.bits9 (fun HT_ HW_ => ?_)
                generalize w35.drew = w36 at HO388 HO391 HO397 HO400 BK393 BK401 HB hHeld ⊢
                refine take_ (i := 0) (N := some 37) (v := ?_) (a' := ?_) #[true, false, false, false, false, false, false, false, false, false] rfl rfl (take_ofW HT_.out HW_.out (by kernel_rfl)) (fun _ _ _ h => h) (Or.inl ⟨by rfl, ?_⟩) hHeld ?_ ?_
                rotate_left
                · rintro w' ⟨s0, s1, s2, s3⟩
                  go_simp
                  with_reducible rfl
                rotate_left
                · simp only [Act.put, List.setIfInBounds_toArray, List.set_cons_zero, List.set_cons_succ, i64_w, i32_w]
                  rfl
                refine take_ (i := 2) (N := some 39) (v := ?_) (a' := ?_) #[true, false, true, false, false, false, false, false, false, false] rfl rfl (take_ofW HT_.out HW_.out (by kernel_rfl)) (fun _ _ _ h => h) (Or.inl ⟨by rfl, ?_⟩) hHeld ?_ ?_
                rotate_left
                · rintro w' ⟨s0, s1, s2, s3⟩
                  go_simp
                  with_reducible rfl
                rotate_left
                · simp only [Act.put, List.setIfInBounds_toArray, List.set_cons_zero, List.set_cons_succ, i64_w, i32_w]
                  rfl
                refine one_ (i := 1) (N := some 38) #[true, true, true, false, false, false, false, false, false, false] rfl rfl (one_of HT_.out (by kernel_rfl)) (by decide) (fun K hK => ?_)
                refine goes_ Try.func31 (by kernel_rfl) rfl #[.agg #[.slice Ao20 t395.length co20, .slice Ao23 t398.length co23]] (by rfl) rfl rfl (by (try simp only [List.map_toArray, List.map_cons, List.map_nil]); first | done | rfl | (simp only [List.length_drop, List.length_take]; rfl)) ?_
                with_reducible refine (graph_Turned.calls kj3 _ _ t395 _ _ t398 t402 t405 _ ?side1 ?side2 ?side3 ?side4 A24.out).mono ?_
                (case side1 => repeat (first | exact (Kd.S_reads' HO397.out).2.2 | (with_reducible refine Kd.C_alloc ?_ _) | (with_reducible refine Kd.C_drewN ?_ _) | (with_reducible refine Kd.C_drew ?_)))
                (case side2 => exact (Kd.S_reads' HO397.out).2.1)
                (case side3 => repeat (first | exact (Kd.S_reads' HO400.out).2.2 | (with_reducible refine Kd.C_alloc ?_ _) | (with_reducible refine Kd.C_drewN ?_ _) | (with_reducible refine Kd.C_drew ?_)))
                (case side4 => exact (Kd.S_reads' HO400.out).2.1)
                rintro e w37 ⟨v403, v406, rfl, ho0, ho1, hb⟩
                refine ⟨_, rfl, ?_⟩
                have n0_ := Aside0.mk (Kd.S_mono (Kd.S_told (Kd.S_told (Kd.S_old (by (with_reducible repeat (first | apply Kd.S_alloc | apply Kd.S_drewN | apply Kd.S_drew)); exact HO388.out) hb) (Kd.S_base ho0)) (Kd.S_base ho1)) (fun _ h_ => h_.1))
                have n1_ := Aside0.mk (Kd.S_mono (Kd.S_told (Kd.S_told (Kd.S_old (by (with_reducible repeat (first | apply Kd.S_alloc | apply Kd.S_drewN | apply Kd.S_drew)); exact HO391.out) hb) (Kd.S_base ho0)) (Kd.S_base ho1)) (fun _ h_ => h_.1))
                have n2_ := Aside0.mk (Kd.S_mono (Kd.S_told (Kd.S_told (Kd.S_old (by (with_reducible repeat (first | apply Kd.S_alloc | apply Kd.S_drewN | apply Kd.S_drew)); exact HO397.out) hb) (Kd.S_base ho0)) (Kd.S_base ho1)) (fun _ h_ => h_.1))
                have n3_ := Aside0.mk (Kd.S_mono (Kd.S_told (Kd.S_told (Kd.S_old (by (with_reducible repeat (first | apply Kd.S_alloc | apply Kd.S_drewN | apply Kd.S_drew)); exact HO400.out) hb) (Kd.S_base ho0)) (Kd.S_base ho1)) (fun _ h_ => h_.1))
                have n4_ := Aside0.mk (Kd.S_lower (Kd.S_new' (Kd.S_new' (Kd.S_new' (Kd.S_new' ho0 (Kd.S_lt (by (with_reducible repeat (first | apply Kd.S_alloc | apply Kd.S_drewN | apply Kd.S_drew)); exact HO388.out))) (Kd.S_lt (by (with_reducible repeat (first | apply Kd.S_alloc | apply Kd.S_drewN | apply Kd.S_drew)); exact HO391.out))) (Kd.S_lt (by (with_reducible repeat (first | apply Kd.S_alloc | apply Kd.S_drewN | apply Kd.S_drew)); exact HO397.out))) (Kd.S_lt (by (with_reducible repeat (first | apply Kd.S_alloc | apply Kd.S_drewN | apply Kd.S_drew)); exact HO400.out))) (below_size (by repeat (first | (with_reducible first | exact HB.out | apply below_alloc | apply pw_below_drewN | apply below_drew1 | refine below_set ?_ GE393.out | refine below_set ?_ GE401.out) | exact HB.out))))
                have n5_ := Aside0.mk (Kd.S_lower (Kd.S_new' (Kd.S_new' (Kd.S_new' (Kd.S_new' ho1 (Kd.S_lt (by (with_reducible repeat (first | apply Kd.S_alloc | apply Kd.S_drewN | apply Kd.S_drew)); exact HO388.out))) (Kd.S_lt (by (with_reducible repeat (first | apply Kd.S_alloc | apply Kd.S_drewN | apply Kd.S_drew)); exact HO391.out))) (Kd.S_lt (by (with_reducible repeat (first | apply Kd.S_alloc | apply Kd.S_drewN | apply Kd.S_drew)); exact HO397.out))) (Kd.S_lt (by (with_reducible repeat (first | apply Kd.S_alloc | apply Kd.S_drewN | apply Kd.S_drew)); exact HO400.out))) (below_size (by repeat (first | (with_reducible first | exact HB.out | apply below_alloc | apply pw_below_drewN | apply below_drew1 | refine below_set ?_ GE393.out | refine below_set ?_ GE401.out) | exact HB.out))))
                have n6_ := Aside0.mk (blk_below (g := gb393) (o := .cells #[.slice Ao15 t386.length co15, .slice Ao17 t389.length co17] 45 (0, 0)) (by (with_reducible repeat (first | refine blk_drewN ?_ _ | refine blk_drew ?_ | refine blk_alloc ?_ _)); exact BK393.out) hb)
                have n7_ := Aside0.mk (blk_below (g := gb401) (o := .cells #[.slice Ao20 t395.length co20, .slice Ao23 t398.length co23] 45 (0, 0)) (by (with_reducible repeat (first | refine blk_drewN ?_ _ | refine blk_drew ?_ | refine blk_alloc ?_ _)); exact BK401.out) hb)
                have n8_ := Aside0.mk (below_step (by repeat (first | (with_reducible first | exact HB.out | apply below_alloc | apply pw_below_drewN | apply below_drew1 | refine below_set ?_ GE393.out | refine below_set ?_ GE401.out) | exact HB.out)) hb)
                clear HO388
                clear HO391
                clear HO397
                clear HO400
                clear BK393
                clear BK401
                clear HB
                have HO388 := n0_
                have HO391 := n1_
                have HO397 := n2_
                have HO400 := n3_
                have HO404 := n4_
                have HO407 := n5_
                have BK393 := n6_
                have BK401 := n7_
                have HB := n8_
                clear n0_ n1_ n2_ n3_ n4_ n5_ n6_ n7_ n8_
                (try clear hb)
                (try clear hb2)
                (try clear hk)
                (try clear hi)
                (try clear ho0)
                (try clear ho1)
                obtain ⟨Ao38, co38, eo38⟩ := Kd.S_slice HO404.out
                (first | subst eo38 | (injection eo38 with f1_ f2_ f3_; have f4_ := f1_.symm; have f5_ := f3_.symm; clear f1_ f2_ f3_; subst f4_; subst f5_))
                obtain ⟨Ao39, co39, eo39⟩ := Kd.S_slice HO407.out
                (first | subst eo39 | (injection eo39 with f1_ f2_ f3_; have f4_ := f1_.symm; have f5_ := f3_.symm; clear f1_ f2_ f3_; subst f4_; subst f5_))
                refine hK.out _ _ ⟨(blk_cell BK401.out 0).trans rfl, (blk_cell BK401.out 1).trans rfl, (blk_cell BK393.out 0).trans rfl, (blk_cell BK393.out 1).trans rfl⟩ (fun hHeld => ?_)
                clear hK K
                refine norm_ (a' := ?_) ?_ ?_
                rotate_left
                · show Act.put _ (some 38) _ = _
                  simp only [Act.put, List.setIfInBounds_toArray, List.set_cons_zero, List.set_cons_succ, i64_w, i32_w]
                  rfl
                refine one_ (i := 3) (N := some 40) #[true, true, true, true, false, false, false, false, false, false] rfl rfl (one_of HT_.out (by kernel_rfl)) (by decide) (fun K hK => ?_)
                refine goes_ Try.func28 (by kernel_rfl) rfl #[.agg #[.slice Ao38 t402.length co38, .slice Ao39 t405.length co39], .agg #[.slice Ao15 t386.length co15, .slice Ao17 t389.length co17]] (by rfl) rfl rfl (by (try simp only [List.map_toArray, List.map_cons, List.map_nil]); first | done | rfl | (simp only [List.length_drop, List.length_take]; rfl)) ?_
                with_reducible refine (lockstepref06_Same.calls kj3 _ _ t402 _ _ t405 _ _ t386 _ _ t389 false _ ?side1 ?side2 ?side3 ?side4 ?side5 ?side6 ?side7 ?side8 A25.out).mono ?_
                (case side1 => repeat (first | exact (Kd.S_reads' HO404.out).2.2 | (with_reducible refine Kd.C_alloc ?_ _) | (with_reducible refine Kd.C_drewN ?_ _) | (with_reducible refine Kd.C_drew ?_)))
                (case side2 => exact (Kd.S_reads' HO404.out).2.1)
                (case side3 => repeat (first | exact (Kd.S_reads' HO407.out).2.2 | (with_reducible refine Kd.C_alloc ?_ _) | (with_reducible refine Kd.C_drewN ?_ _) | (with_reducible refine Kd.C_drew ?_)))
                (case side4 => exact (Kd.S_reads' HO407.out).2.1)
                (case side5 => repeat (first | exact (Kd.S_reads' HO388.out).2.2 | (with_reducible refine Kd.C_alloc ?_ _) | (with_reducible refine Kd.C_drewN ?_ _) | (with_reducible refine Kd.C_drew ?_)))
                (case side6 => exact (Kd.S_reads' HO388.out).2.1)
                (case side7 => repeat (first | exact (Kd.S_reads' HO391.out).2.2 | (with_reducible refine Kd.C_alloc ?_ _) | (with_reducible refine Kd.C_drewN ?_ _) | (with_reducible refine Kd.C_drew ?_)))
                (case side8 => exact (Kd.S_reads' HO391.out).2.1)
                rintro e w40 ⟨rfl, hb⟩
                refine ⟨_, rfl, ?_⟩
                have n0_ := Aside0.mk (Kd.S_below (by (with_reducible repeat (first | apply Kd.S_alloc | apply Kd.S_drewN | apply Kd.S_drew)); exact HO388.out) hb)
                have n1_ := Aside0.mk (Kd.S_below (by (with_reducible repeat (first | apply Kd.S_alloc | apply Kd.S_drewN | apply Kd.S_drew)); exact HO391.out) hb)
                have n2_ := Aside0.mk (Kd.S_below (by (with_reducible repeat (first | apply Kd.S_alloc | apply Kd.S_drewN | apply Kd.S_drew)); exact HO397.out) hb)
                have n3_ := Aside0.mk (Kd.S_below (by (with_reducible repeat (first | apply Kd.S_alloc | apply Kd.S_drewN | apply Kd.S_drew)); exact HO400.out) hb)
                have n4_ := Aside0.mk (Kd.S_below (by (with_reducible repeat (first | apply Kd.S_alloc | apply Kd.S_drewN | apply Kd.S_drew)); exact HO404.out) hb)
                have n5_ := Aside0.mk (Kd.S_below (by (with_reducible repeat (first | apply Kd.S_alloc | apply Kd.S_drewN | apply Kd.S_drew)); exact HO407.out) hb)
                have n6_ := Aside0.mk (blk_below (g := gb393) (o := .cells #[.slice Ao15 t386.length co15, .slice Ao17 t389.length co17] 45 (0, 0)) (by (with_reducible repeat (first | refine blk_drewN ?_ _ | refine blk_drew ?_ | refine blk_alloc ?_ _)); exact BK393.out) hb)
                have n7_ := Aside0.mk (blk_below (g := gb401) (o := .cells #[.slice Ao20 t395.length co20, .slice Ao23 t398.length co23] 45 (0, 0)) (by (with_reducible repeat (first | refine blk_drewN ?_ _ | refine blk_drew ?_ | refine blk_alloc ?_ _)); exact BK401.out) hb)
                have n8_ := Aside0.mk (below_step (by repeat (first | (with_reducible first | exact HB.out | apply below_alloc | apply pw_below_drewN | apply below_drew1 | refine below_set ?_ GE393.out | refine below_set ?_ GE401.out) | exact HB.out)) hb)
                clear HO388
                clear HO391
                clear HO397
                clear HO400
                clear HO404
                clear HO407
                clear BK393
                clear BK401
                clear HB
                have HO388 := n0_
                have HO391 := n1_
                have HO397 := n2_
                have HO400 := n3_
                have HO404 := n4_
                have HO407 := n5_
                have BK393 := n6_
                have BK401 := n7_
                have HB := n8_
                clear n0_ n1_ n2_ n3_ n4_ n5_ n6_ n7_ n8_
                (try clear hb)
                (try clear hb2)
                (try clear hk)
                (try clear hi)
                refine hK.out _ _ ⟨(blk_cell BK401.out 0).trans rfl, (blk_cell BK401.out 1).trans rfl, (blk_cell BK393.out 0).trans rfl, (blk_cell BK393.out 1).trans rfl⟩ (fun hHeld => ?_)
                clear hK K
                refine norm_ (a' := ?_) ?_ ?_
                rotate_left
                · show Act.put _ (some 40) _ = _
                  simp only [Act.put, List.setIfInBounds_toArray, List.set_cons_zero, List.set_cons_succ, i64_w, i32_w]
                  rfl
                refine pure_ (i := 4) (N := some 41) (v := ?_) (a' := ?_) #[true, true, true, true, true, false, false, false, false, false] rfl rfl (any_of HT_.out (by kernel_rfl)) (fun _ _ _ h => h) (Or.inl ⟨by rfl, ?_⟩) ?_ ?_
                rotate_left
                · intro w'
                  go_simp
                  with_reducible rfl
                rotate_left
                · simp only [Act.put, List.setIfInBounds_toArray, List.set_cons_zero, List.set_cons_succ, i64_w, i32_w]
                  rfl
                refine pure_ (i := 5) (N := some 42) (v := ?_) (a' := ?_) #[true, true, true, true, true, true, false, false, false, false] rfl rfl (any_of HT_.out (by kernel_rfl)) (fun _ _ _ h => h) (Or.inl ⟨by rfl, ?_⟩) ?_ ?_
                rotate_left
                · intro w'
                  go_simp
                  with_reducible rfl
                rotate_left
                · simp only [Act.put, List.setIfInBounds_toArray, List.set_cons_zero, List.set_cons_succ, i64_w, i32_w]
                  rfl
                refine pure_ (i := 6) (N := some 43) (v := undef) (a' := ?_) #[true, true, true, true, true, true, true, false, false, false] rfl rfl (any_of HT_.out (by kernel_rfl)) (fun _ _ _ h => h) (Or.inr ⟨by rfl, rfl⟩) ?_ ?_
                rotate_left
                · simp only [Act.put, List.setIfInBounds_toArray, List.set_cons_zero, List.set_cons_succ, i64_w, i32_w]
                  rfl
                refine pure_ (i := 7) (N := some 44) (v := undef) (a' := ?_) #[true, true, true, true, true, true, true, true, false, false] rfl rfl (any_of HT_.out (by kernel_rfl)) (fun _ _ _ h => h) (Or.inr ⟨by rfl, rfl⟩) ?_ ?_
                rotate_left
                · simp only [Act.put, List.setIfInBounds_toArray, List.set_cons_zero, List.set_cons_succ, i64_w, i32_w]
                  rfl
                refine pure_ (i := 8) (N := some 45) (v := undef) (a' := ?_) #[true, true, true, true, true, true, true, true, true, false] rfl rfl (any_of HT_.out (by kernel_rfl)) (fun _ _ _ h => h) (Or.inr ⟨by rfl, rfl⟩) ?_ ?_
                rotate_left
                · simp only [Act.put, List.setIfInBounds_toArray, List.set_cons_zero, List.set_cons_succ, i64_w, i32_w]
                  rfl
                refine pure_ (i := 9) (N := some 46) (v := ?_) (a' := ?_) #[true, true, true, true, true, true, true, true, true, true] rfl rfl (any_of HT_.out (by kernel_rfl)) (fun _ _ _ h => h) (Or.inl ⟨by rfl, ?_⟩) ?_ ?_
                rotate_left
                · intro w'
                  go_simp
                  with_reducible rfl
                rotate_left
                · simp only [Act.put, List.setIfInBounds_toArray, List.set_cons_zero, List.set_cons_succ, i64_w, i32_w]
                  rfl
                refine done_ (done_of HT_.out (by kernel_rfl)) ?_
                try go_wp2
                go_meet
                case rel => exact ⟨_, (true), (by first | rfl | exact congrArg (fun b => Ending.returned (Value.bool b)) HR_.out | (simp; done) | (simp [*]; done)), H', ⟨by have := HJ3.out; first | omega | exact Nat.le_refl _⟩, ⟨by (with_reducible repeat (first | apply Kd.S_alloc | apply Kd.S_drewN | apply Kd.S_drew)); exact Kd.S_mono HO388.out (fun _ hk => ⟨hk.1.1.1, ⟨hk.1.1.2.1, hk.1.1.2.2⟩⟩)⟩, ⟨by (with_reducible repeat (first | apply Kd.S_alloc | apply Kd.S_drewN | apply Kd.S_drew)); exact Kd.S_mono HO391.out (fun _ hk => ⟨hk.1.1.1, ⟨hk.1.1.2.1, hk.1.1.2.2⟩⟩)⟩, ⟨by (with_reducible repeat (first | apply Kd.S_alloc | apply Kd.S_drewN | apply Kd.S_drew)); exact Kd.S_mono HO397.out (fun _ hk => ⟨hk.1.1.1, ⟨hk.1.1.2.1, hk.1.1.2.2⟩⟩)⟩, ⟨by (with_reducible repeat (first | apply Kd.S_alloc | apply Kd.S_drewN | apply Kd.S_drew)); exact Kd.S_mono HO400.out (fun _ hk => ⟨hk.1.1.1, ⟨hk.1.1.2.1, hk.1.1.2.2⟩⟩)⟩, ⟨by (with_reducible repeat (first | refine blk_drewN ?_ _ | refine blk_drew ?_ | refine blk_alloc ?_ _)); exact BK393.out⟩, ⟨by (with_reducible repeat (first | refine blk_drewN ?_ _ | refine blk_drew ?_ | refine blk_alloc ?_ _)); exact BK401.out⟩, ⟨by repeat (first | (with_reducible first | exact HB.out | apply below_alloc | apply pw_below_drewN | apply below_drew1 | refine below_set ?_ GE393.out | refine below_set ?_ GE401.out) | exact HB.out)⟩⟩
            case rest =>
              clear HC12
              try clear c1
              try clear c2
              try clear p2
              try clear c3
              try clear c6
              try clear c6b0
              try clear c6b1
              try clear c8
              try clear c10
              try clear c10b0
              try clear c10b1
              try clear c11
              try clear c21
              try clear c23
              try clear c26
              try clear c28
              try clear c29
              try clear c31
              try clear hcz16_0
              try clear hcz16_1
              try clear hcz22_0
              try clear hcz22_1
              try clear hfz16_0
              try clear hfz16_1
              try clear hfz22_0
              try clear hfz22_1
              try clear p2
              obtain ⟨kq, x46_11, rfl, HA, HJ11, HO_394000, HO_394001, HO_402000, HO_402001, BK393, BK401, HB⟩ := hcut
              cases kq with
              | zero => exact absurd HA.out (by simp [locksteplaw06_GraphTurned.j1])
              | succ kj11 =>
                have H := HA.out
                clear HA
                simp only [locksteplaw06_GraphTurned.j1] at H
                by_cases c41 : x46_11 = true
                · subst c41
                  have H1 : (some false) = some true := by rw [if_pos rfl] at H; exact H
                  clear H
                  have H := H1
                  clear H1
                  exact absurd H (by simp)
                · replace c41 := Bool.eq_false_iff.mpr c41
                  subst c41
                  have H1 : (locksteplaw06_GraphTurned.l0 kj11 l0 0 t386 t389 t395 t398) = some true := by rw [if_neg (show ¬ (false = true) by decide)] at H; exact H
                  clear H
                  have H := H1
                  clear H1
                  have H' := Aside0.mk H
                  clear H
                  go_wp2
                  go_loopg [6] kj11 (fun kq v6 w' => ∃ (x6_3 : Int), v6 = .int .i64 x6_3 ∧ Aside0 (locksteplaw06_GraphTurned.l0 kq l0 x6_3 t386 t389 t395 t398 = some true) ∧ Aside0 (kq ≤ kj11) ∧ Aside0 (Kd.S (Kd.slice 3 (Kd.int .i64)) 33 w' w.heap.size (fun k_ => some k_ ≠ ((.slice Ao17 t389.length co17) : Value).ownBlock ∧ some k_ ≠ ((.slice Ao20 t395.length co20) : Value).ownBlock ∧ some k_ ≠ ((.slice Ao23 t398.length co23) : Value).ownBlock) (.slice Ao15 t386.length co15) t386) ∧ Aside0 (Kd.S (Kd.slice 3 (Kd.int .i64)) 33 w' w.heap.size (fun k_ => some k_ ≠ ((.slice Ao15 t386.length co15) : Value).ownBlock ∧ some k_ ≠ ((.slice Ao20 t395.length co20) : Value).ownBlock ∧ some k_ ≠ ((.slice Ao23 t398.length co23) : Value).ownBlock) (.slice Ao17 t389.length co17) t389) ∧ Aside0 (Kd.S (Kd.slice 3 (Kd.int .i64)) 33 w' w.heap.size (fun k_ => some k_ ≠ ((.slice Ao15 t386.length co15) : Value).ownBlock ∧ some k_ ≠ ((.slice Ao17 t389.length co17) : Value).ownBlock ∧ some k_ ≠ ((.slice Ao23 t398.length co23) : Value).ownBlock) (.slice Ao20 t395.length co20) t395) ∧ Aside0 (Kd.S (Kd.slice 3 (Kd.int .i64)) 33 w' w.heap.size (fun k_ => some k_ ≠ ((.slice Ao15 t386.length co15) : Value).ownBlock ∧ some k_ ≠ ((.slice Ao17 t389.length co17) : Value).ownBlock ∧ some k_ ≠ ((.slice Ao20 t395.length co20) : Value).ownBlock) (.slice Ao23 t398.length co23) t398) ∧ Aside0 (w'.heap[gb393]? = some (.cells #[(.slice Ao15 t386.length co15), (.slice Ao17 t389.length co17)] 45 (0, 0))) ∧ Aside0 (w'.heap[gb401]? = some (.cells #[(.slice Ao20 t395.length co20), (.slice Ao23 t398.length co23)] 45 (0, 0))) ∧ Aside0 (Below w.heap.size w w'))
                  case atStart => exact ⟨(0), (by first | rfl | exact congrArg (fun b => Ending.returned (Value.bool b)) HR_.out | (simp; done) | (simp [*]; done)), H', ⟨Nat.le_refl _⟩, ⟨by (with_reducible repeat (first | apply Kd.S_alloc | apply Kd.S_drewN | apply Kd.S_drew)); first | exact HO_394000.out | exact Kd.R_mono HO_394000.out (fun _ hk e_ => hk (e_.trans own_len))⟩, ⟨by (with_reducible repeat (first | apply Kd.S_alloc | apply Kd.S_drewN | apply Kd.S_drew)); first | exact HO_394001.out | exact Kd.R_mono HO_394001.out (fun _ hk e_ => hk (e_.trans own_len))⟩, ⟨by (with_reducible repeat (first | apply Kd.S_alloc | apply Kd.S_drewN | apply Kd.S_drew)); first | exact HO_402000.out | exact Kd.R_mono HO_402000.out (fun _ hk e_ => hk (e_.trans own_len))⟩, ⟨by (with_reducible repeat (first | apply Kd.S_alloc | apply Kd.S_drewN | apply Kd.S_drew)); first | exact HO_402001.out | exact Kd.R_mono HO_402001.out (fun _ hk e_ => hk (e_.trans own_len))⟩, ⟨by (with_reducible repeat (first | refine blk_drewN ?_ _ | refine blk_drew ?_ | refine blk_alloc ?_ _)); exact BK393.out⟩, ⟨by (with_reducible repeat (first | refine blk_drewN ?_ _ | refine blk_drew ?_ | refine blk_alloc ?_ _)); exact BK401.out⟩, ⟨by repeat (first | (with_reducible first | exact HB.out | apply below_alloc | apply pw_below_drewN | apply below_drew1 | refine below_set ?_ GE393.out | refine below_set ?_ GE401.out) | exact HB.out)⟩⟩
                  case round =>
                    clear H'
                    try clear c1
                    try clear c2
                    try clear p2
                    try clear c3
                    try clear c4
                    try clear c6
                    try clear c6b0
                    try clear c6b1
                    try clear c8
                    try clear c10
                    try clear c10b0
                    try clear c10b1
                    try clear c11
                    try clear c21
                    try clear c23
                    try clear c26
                    try clear c28
                    try clear c29
                    try clear c31
                    try clear c41
                    try clear hcz16_0
                    try clear hcz16_1
                    try clear hcz22_0
                    try clear hcz22_1
                    try clear hfz16_0
                    try clear hfz16_1
                    try clear hfz22_0
                    try clear hfz22_1
                    try clear p2
                    obtain ⟨x6_3, rfl, HA, HK3, HO_394000, HO_394001, HO_402000, HO_402001, BK393, BK401, HB⟩ := hrel
                    cases gk with
                    | zero => exact absurd HA.out (by simp [locksteplaw06_GraphTurned.l0])
                    | succ k3 =>
                      have H := HA.out
                      clear HA
                      simp only [locksteplaw06_GraphTurned.l0] at H
                      by_cases c42 : x6_3 < (l0.length : Int)
                      · rw [if_pos c42] at H
                        have c42b0 : decide (x6_3 < (l0.length : Int)) = true := decide_eq_true c42
                        clear c42
                        replace H := Option.bind_eq_some_iff.mp H
                        obtain ⟨t414, A430, H⟩ := H
                        replace H : (locksteplaw06_GraphTurned.l1 k3 l0 x6_3 t414 0 t386 t389 t395 t398) = some true := H
                        have A43 := Aside0.mk A430
                        clear A430
                        have H' := Aside0.mk H
                        clear H
                        have hnb44 := NB393_401.out
                        have hnc44 := NB401_393.out
                        have hcz45_0 : wr.cell? ⟨gb393, 0, none⟩ = some (.slice Ao15 t386.length co15) := (blk_cell BK393.out 0).trans rfl
                        have hcz45_1 : wr.cell? ⟨gb393, 1, none⟩ = some (.slice Ao17 t389.length co17) := (blk_cell BK393.out 1).trans rfl
                        have hfz45_0 := blk_frozen BK393.out 0
                        have hfz45_1 := blk_frozen BK393.out 1
                        go_wp2_with (first | ((with_reducible refine gate_callee (f := 24) rfl ?_); refine goesL_ (some 55) rfl rfl Try.func24 (by kernel_rfl) rfl #[.agg #[.slice Ao15 t386.length co15, .slice Ao17 t389.length co17], .int .i64 x6_3] rfl (by (try simp only [List.map_toArray, List.map_cons, List.map_nil]); first | done | rfl | (simp only [List.length_drop, List.length_take]; rfl)) ?_; (with_reducible refine (graph_Order.calls k3 _ _ t386 _ _ t389 x6_3 t414 _ ?side1 ?side2 ?side3 ?side4 A43.out).mono ?_); (case side1 => repeat (first | exact (Kd.S_reads' HO_394000.out).2.2 | (with_reducible refine Kd.C_alloc ?_ _) | (with_reducible refine Kd.C_drewN ?_ _) | (with_reducible refine Kd.C_drew ?_))); (case side2 => exact (Kd.S_reads' HO_394000.out).2.1); (case side3 => repeat (first | exact (Kd.S_reads' HO_394001.out).2.2 | (with_reducible refine Kd.C_alloc ?_ _) | (with_reducible refine Kd.C_drewN ?_ _) | (with_reducible refine Kd.C_drew ?_))); (case side4 => exact (Kd.S_reads' HO_394001.out).2.1); rintro e w46 ⟨v415, rfl, ho0, hb⟩; refine ⟨_, rfl, ?_⟩; have n0_ := Aside0.mk (Kd.S_elder' (by (with_reducible repeat (first | apply Kd.S_alloc | apply Kd.S_drewN | apply Kd.S_drew)); exact HO_394000.out) (Kd.R_base ho0) hb); have n1_ := Aside0.mk (Kd.S_elder' (by (with_reducible repeat (first | apply Kd.S_alloc | apply Kd.S_drewN | apply Kd.S_drew)); exact HO_394001.out) (Kd.R_base ho0) hb); have n2_ := Aside0.mk (Kd.S_elder' (by (with_reducible repeat (first | apply Kd.S_alloc | apply Kd.S_drewN | apply Kd.S_drew)); exact HO_402000.out) (Kd.R_base ho0) hb); have n3_ := Aside0.mk (Kd.S_elder' (by (with_reducible repeat (first | apply Kd.S_alloc | apply Kd.S_drewN | apply Kd.S_drew)); exact HO_402001.out) (Kd.R_base ho0) hb); have n4_ := Aside0.mk (Kd.R_lower ho0 (below_size (by repeat (first | (with_reducible first | exact HB.out | apply below_alloc | apply pw_below_drewN | apply below_drew1 | refine below_set ?_ GE393.out | refine below_set ?_ GE401.out) | exact HB.out)))); have n5_ := Aside0.mk (blk_below (g := gb393) (o := .cells #[.slice Ao15 t386.length co15, .slice Ao17 t389.length co17] 45 (0, 0)) (by (with_reducible repeat (first | refine blk_drewN ?_ _ | refine blk_drew ?_ | refine blk_alloc ?_ _)); exact BK393.out) hb); have n6_ := Aside0.mk (blk_below (g := gb401) (o := .cells #[.slice Ao20 t395.length co20, .slice Ao23 t398.length co23] 45 (0, 0)) (by (with_reducible repeat (first | refine blk_drewN ?_ _ | refine blk_drew ?_ | refine blk_alloc ?_ _)); exact BK401.out) hb); have n7_ := Aside0.mk (below_step (by repeat (first | (with_reducible first | exact HB.out | apply below_alloc | apply pw_below_drewN | apply below_drew1 | refine below_set ?_ GE393.out | refine below_set ?_ GE401.out) | exact HB.out)) hb); clear HO_394000; clear HO_394001; clear HO_402000; clear HO_402001; clear BK393; clear BK401; clear HB; have HO_394000 := n0_; have HO_394001 := n1_; have HO_402000 := n2_; have HO_402001 := n3_; have HO416 := n4_; have BK393 := n5_; have BK401 := n6_; have HB := n7_; clear n0_ n1_ n2_ n3_ n4_ n5_ n6_ n7_; (try clear hb); (try clear hb2); (try clear hk); (try clear hi); (try clear ho0)))
                        go_loopg [8] k3 (fun kq v8 w' => ∃ (x8_4 : Int), v8 = .int .i64 x8_4 ∧ Aside0 (locksteplaw06_GraphTurned.l1 kq l0 x6_3 t414 x8_4 t386 t389 t395 t398 = some true) ∧ Aside0 (kq ≤ k3) ∧ Aside0 (Kd.R (Kd.int .i64) 3 w' w.heap.size (fun _ => True) v415 t414) ∧ Aside0 (Kd.S (Kd.slice 3 (Kd.int .i64)) 33 w' w.heap.size (fun k_ => some k_ ≠ (v415 : Value).ownBlock ∧ some k_ ≠ ((.slice Ao17 t389.length co17) : Value).ownBlock ∧ some k_ ≠ ((.slice Ao20 t395.length co20) : Value).ownBlock ∧ some k_ ≠ ((.slice Ao23 t398.length co23) : Value).ownBlock) (.slice Ao15 t386.length co15) t386) ∧ Aside0 (Kd.S (Kd.slice 3 (Kd.int .i64)) 33 w' w.heap.size (fun k_ => some k_ ≠ (v415 : Value).ownBlock ∧ some k_ ≠ ((.slice Ao15 t386.length co15) : Value).ownBlock ∧ some k_ ≠ ((.slice Ao20 t395.length co20) : Value).ownBlock ∧ some k_ ≠ ((.slice Ao23 t398.length co23) : Value).ownBlock) (.slice Ao17 t389.length co17) t389) ∧ Aside0 (Kd.S (Kd.slice 3 (Kd.int .i64)) 33 w' w.heap.size (fun k_ => some k_ ≠ (v415 : Value).ownBlock ∧ some k_ ≠ ((.slice Ao15 t386.length co15) : Value).ownBlock ∧ some k_ ≠ ((.slice Ao17 t389.length co17) : Value).ownBlock ∧ some k_ ≠ ((.slice Ao23 t398.length co23) : Value).ownBlock) (.slice Ao20 t395.length co20) t395) ∧ Aside0 (Kd.S (Kd.slice 3 (Kd.int .i64)) 33 w' w.heap.size (fun k_ => some k_ ≠ (v415 : Value).ownBlock ∧ some k_ ≠ ((.slice Ao15 t386.length co15) : Value).ownBlock ∧ some k_ ≠ ((.slice Ao17 t389.length co17) : Value).ownBlock ∧ some k_ ≠ ((.slice Ao20 t395.length co20) : Value).ownBlock) (.slice Ao23 t398.length co23) t398) ∧ Aside0 (w'.heap[gb393]? = some (.cells #[(.slice Ao15 t386.length co15), (.slice Ao17 t389.length co17)] 45 (0, 0))) ∧ Aside0 (w'.heap[gb401]? = some (.cells #[(.slice Ao20 t395.length co20), (.slice Ao23 t398.length co23)] 45 (0, 0))) ∧ Aside0 (Below w.heap.size w w'))
                        case atStart => exact ⟨(0), (by first | rfl | exact congrArg (fun b => Ending.returned (Value.bool b)) HR_.out | (simp; done) | (simp [*]; done)), H', ⟨Nat.le_refl _⟩, ⟨by (with_reducible repeat (first | apply Kd.R_alloc | apply Kd.R_drewN | apply Kd.R_drew)); first | exact HO416.out | exact Kd.R_mono HO416.out (fun _ hk e_ => hk (e_.trans own_len))⟩, ⟨by (with_reducible repeat (first | apply Kd.S_alloc | apply Kd.S_drewN | apply Kd.S_drew)); exact Kd.S_mono HO_394000.out (fun _ hk => ⟨hk.2, ⟨hk.1.1, ⟨hk.1.2.1, hk.1.2.2⟩⟩⟩)⟩, ⟨by (with_reducible repeat (first | apply Kd.S_alloc | apply Kd.S_drewN | apply Kd.S_drew)); exact Kd.S_mono HO_394001.out (fun _ hk => ⟨hk.2, ⟨hk.1.1, ⟨hk.1.2.1, hk.1.2.2⟩⟩⟩)⟩, ⟨by (with_reducible repeat (first | apply Kd.S_alloc | apply Kd.S_drewN | apply Kd.S_drew)); exact Kd.S_mono HO_402000.out (fun _ hk => ⟨hk.2, ⟨hk.1.1, ⟨hk.1.2.1, hk.1.2.2⟩⟩⟩)⟩, ⟨by (with_reducible repeat (first | apply Kd.S_alloc | apply Kd.S_drewN | apply Kd.S_drew)); exact Kd.S_mono HO_402001.out (fun _ hk => ⟨hk.2, ⟨hk.1.1, ⟨hk.1.2.1, hk.1.2.2⟩⟩⟩)⟩, ⟨by (with_reducible repeat (first | refine blk_drewN ?_ _ | refine blk_drew ?_ | refine blk_alloc ?_ _)); exact BK393.out⟩, ⟨by (with_reducible repeat (first | refine blk_drewN ?_ _ | refine blk_drew ?_ | refine blk_alloc ?_ _)); exact BK401.out⟩, ⟨by repeat (first | (with_reducible first | exact HB.out | apply below_alloc | apply pw_below_drewN | apply below_drew1 | refine below_set ?_ GE393.out | refine below_set ?_ GE401.out) | exact HB.out)⟩⟩
                        case round =>
                          clear H'
                          try clear c1
                          try clear c2
                          try clear p2
                          try clear c3
                          try clear c4
                          try clear c6
                          try clear c6b0
                          try clear c6b1
                          try clear c8
                          try clear c10
                          try clear c10b0
                          try clear c10b1
                          try clear c11
                          try clear c21
                          try clear c23
                          try clear c24
                          try clear c26
                          try clear c28
                          try clear c29
                          try clear c31
                          try clear c41
                          try clear c42
                          try clear c42b0
                          try clear c44
                          try clear hcz16_0
                          try clear hcz16_1
                          try clear hcz22_0
                          try clear hcz22_1
                          try clear hcz45_0
                          try clear hcz45_1
                          try clear hfz16_0
                          try clear hfz16_1
                          try clear hfz22_0
                          try clear hfz22_1
                          try clear hfz45_0
                          try clear hfz45_1
                          try clear p2
                          obtain ⟨x8_4, rfl, HA, HK4, HO_7, HO_394000, HO_394001, HO_402000, HO_402001, BK393, BK401, HB⟩ := hrel
                          cases gk with
                          | zero => exact absurd HA.out (by simp [locksteplaw06_GraphTurned.l1])
                          | succ k4 =>
                            have H := HA.out
                            clear HA
                            simp only [locksteplaw06_GraphTurned.l1] at H
                            by_cases c47 : x8_4 < (t414.length : Int)
                            · rw [if_pos c47] at H
                              have c47b0 : decide (x8_4 < (t414.length : Int)) = true := decide_eq_true c47
                              clear c47
                              by_cases c48 : 0 ≤ x8_4
                              · rw [if_pos c48] at H
                                have c48b0 : decide (0 ≤ x8_4) = true := decide_eq_true c48
                                clear c48
                                replace H := Option.bind_eq_some_iff.mp H
                                obtain ⟨t418, A490, H⟩ := H
                                replace H : ((lockstepref06_Has.f k4 t418 x6_3).bind fun t421 => (if t421 = true then (locksteplaw06_GraphTurned.l1 k4 l0 x6_3 t414 (wrap64 (x8_4 + 1)) t386 t389 t395 t398) else (some false))) = some true := H
                                have A49 := Aside0.mk A490
                                clear A490
                                replace H := Option.bind_eq_some_iff.mp H
                                obtain ⟨t421, A500, H⟩ := H
                                replace H : (if t421 = true then (locksteplaw06_GraphTurned.l1 k4 l0 x6_3 t414 (wrap64 (x8_4 + 1)) t386 t389 t395 t398) else (some false)) = some true := H
                                have A50 := Aside0.mk A500
                                clear A500
                                by_cases c51 : t421 = true
                                · subst c51
                                  have H1 : (locksteplaw06_GraphTurned.l1 k4 l0 x6_3 t414 (wrap64 (x8_4 + 1)) t386 t389 t395 t398) = some true := by rw [if_pos rfl] at H; exact H
                                  clear H
                                  have H := H1
                                  clear H1
                                  have H' := Aside0.mk H
                                  clear H
                                  obtain ⟨Ao52, co52, eo52⟩ := Kd.R_slice HO_7.out
                                  subst eo52
                                  try go_wp2
                                  have n0_ := Aside0.mk (Kd.R_drew HO_7.out)
                                  have n1_ := Aside0.mk (Kd.S_drew HO_394000.out)
                                  have n2_ := Aside0.mk (Kd.S_drew HO_394001.out)
                                  have n3_ := Aside0.mk (Kd.S_drew HO_402000.out)
                                  have n4_ := Aside0.mk (Kd.S_drew HO_402001.out)
                                  have n5_ := Aside0.mk (blk_drew BK393.out)
                                  have n6_ := Aside0.mk (blk_drew BK401.out)
                                  have n7_ := Aside0.mk (below_drew1 HB.out)
                                  clear HO_7
                                  clear HO_394000
                                  clear HO_394001
                                  clear HO_402000
                                  clear HO_402001
                                  clear BK393
                                  clear BK401
                                  clear HB
                                  have HO_7 := n0_
                                  have HO_394000 := n1_
                                  have HO_394001 := n2_
                                  have HO_402000 := n3_
                                  have HO_402001 := n4_
                                  have BK393 := n5_
                                  have BK401 := n6_
                                  have HB := n7_
                                  clear n0_ n1_ n2_ n3_ n4_ n5_ n6_ n7_
                                  have p417 : 0 ≤ (x8_4 : Int) := of_decide_eq_true (by first | (with_reducible assumption) | assumption)
                                  have q417 : x8_4 < (t414.length : Int) := of_decide_eq_true (by first | (with_reducible assumption) | assumption)
                                  obtain ⟨ad417, e417, hx417_0⟩ := Kd.at_int (Kd.R_reads' HO_7.out).2.2 x8_4 p417 q417
                                  cases e417
                                  replace p417 := eq_true p417
                                  replace q417 := eq_true q417
                                  refine start_ (n := 9) (S := fun w' => w'.cell? ⟨gb401, 0, none⟩ = some (.slice Ao20 t395.length co20) ∧ w'.cell? ⟨gb401, 1, none⟩ = some (.slice Ao23 t398.length co23) ∧ w'.cell? (ad417.add (x8_4).toNat) = some (.int .i64 (rd t414 x8_4))) (ds := []) #[false, false, false, false, false, false, false, false, false] (by kernel_rfl) rfl rfl ⟨(blk_cell BK401.out 0).trans rfl, (blk_cell BK401.out 1).trans rfl, hx417_0⟩ (fun hHeld => ?_); refine with_tabW locksteplaw06_GraphTurned.tab18 locksteplaw06_GraphTurned.bits18 (fun HT_ HW_ => ?_)
                                  generalize wr.drew = w53 at HO_7 HO_394000 HO_394001 HO_402000 HO_402001 BK393 BK401 HB hx417_0 hHeld ⊢
                                  refine pure_ (i := 1) (N := some 63) (v := ?_) (a' := ?_) #[false, true, false, false, false, false, false, false, false] rfl rfl (any_of HT_.out (by kernel_rfl)) (fun _ _ _ h => h) (Or.inl ⟨by rfl, ?_⟩) ?_ ?_
                                  rotate_left
                                  · intro w'
                                    go_simp
                                    with_reducible rfl
                                  rotate_left
                                  · simp only [Act.put, List.setIfInBounds_toArray, List.set_cons_zero, List.set_cons_succ, i64_w, i32_w]
                                    rfl
                                  refine pure_ (i := 2) (N := some 64) (v := ?_) (a' := ?_) #[false, true, true, false, false, false, false, false, false] rfl rfl (any_of HT_.out (by kernel_rfl)) (fun _ _ _ h => h) (Or.inl ⟨by rfl, ?_⟩) ?_ ?_
                                  rotate_left
                                  · intro w'
                                    go_simp
                                    with_reducible rfl
                                  rotate_left
                                  · simp only [Act.put, List.setIfInBounds_toArray, List.set_cons_zero, List.set_cons_succ, i64_w, i32_w]
                                    rfl
                                  refine pure_ (i := 3) (N := some 65) (v := ?_) (a' := ?_) #[false, true, true, true, false, false, false, false, false] rfl rfl (any_of HT_.out (by kernel_rfl)) (fun _ _ _ h => h) (Or.inl ⟨by rfl, ?_⟩) ?_ ?_
                                  rotate_left
                                  · intro w'
                                    go_simp
                                    with_reducible rfl
                                  rotate_left
                                  · simp only [Act.put, List.setIfInBounds_toArray, List.set_cons_zero, List.set_cons_succ, i64_w, i32_w]
                                    rfl
                                  refine pure_ (i := 6) (N := some 68) (v := ?_) (a' := ?_) #[false, true, true, true, false, false, true, false, false] rfl rfl (any_of HT_.out (by kernel_rfl)) (fun _ _ _ h => h) (Or.inl ⟨by rfl, ?_⟩) ?_ ?_
                                  rotate_left
                                  · intro w'
                                    go_simp
                                    with_reducible rfl
                                  rotate_left
                                  · simp only [Act.put, List.setIfInBounds_toArray, List.set_cons_zero, List.set_cons_succ, i64_w, i32_w]
                                    rfl
                                  refine take_ (i := 0) (N := some 62) (v := ?_) (a' := ?_) #[true, true, true, true, false, false, true, false, false] rfl rfl (take_ofW HT_.out HW_.out (by kernel_rfl)) (fun _ _ _ h => h) (Or.inl ⟨by rfl, ?_⟩) hHeld ?_ ?_
                                  rotate_left
                                  · rintro w' ⟨s0, s1, s2⟩
                                    go_simp
                                    with_reducible rfl
                                  rotate_left
                                  · simp only [Act.put, List.setIfInBounds_toArray, List.set_cons_zero, List.set_cons_succ, i64_w, i32_w]
                                    rfl
                                  refine take_ (i := 4) (N := some 66) (v := ?_) (a' := ?_) #[true, true, true, true, true, false, true, false, false] rfl rfl (take_ofW HT_.out HW_.out (by kernel_rfl)) (fun _ _ _ h => h) (Or.inl ⟨by rfl, ?_⟩) hHeld ?_ ?_
                                  rotate_left
                                  · rintro w' ⟨s0, s1, s2⟩
                                    go_simp
                                    with_reducible rfl
                                  rotate_left
                                  · simp only [Act.put, List.setIfInBounds_toArray, List.set_cons_zero, List.set_cons_succ, i64_w, i32_w]
                                    rfl
                                  refine one_ (i := 5) (N := some 67) #[true, true, true, true, true, true, true, false, false] rfl rfl (one_of HT_.out (by kernel_rfl)) (by decide) (fun K hK => ?_)
                                  refine goes_ Try.func24 (by kernel_rfl) rfl #[.agg #[.slice Ao20 t395.length co20, .slice Ao23 t398.length co23], .int .i64 (rd t414 x8_4)] (by rfl) rfl rfl (by (try simp only [List.map_toArray, List.map_cons, List.map_nil]); first | done | rfl | (simp only [List.length_drop, List.length_take]; rfl)) ?_
                                  with_reducible refine (graph_Order.calls k4 _ _ t395 _ _ t398 (rd t414 x8_4) t418 _ ?side1 ?side2 ?side3 ?side4 A49.out).mono ?_
                                  (case side1 => repeat (first | exact (Kd.S_reads' HO_402000.out).2.2 | (with_reducible refine Kd.C_alloc ?_ _) | (with_reducible refine Kd.C_drewN ?_ _) | (with_reducible refine Kd.C_drew ?_)))
                                  (case side2 => exact (Kd.S_reads' HO_402000.out).2.1)
                                  (case side3 => repeat (first | exact (Kd.S_reads' HO_402001.out).2.2 | (with_reducible refine Kd.C_alloc ?_ _) | (with_reducible refine Kd.C_drewN ?_ _) | (with_reducible refine Kd.C_drew ?_)))
                                  (case side4 => exact (Kd.S_reads' HO_402001.out).2.1)
                                  rintro e w54 ⟨v419, rfl, ho0, hb⟩
                                  have HS2_ := (hb.cell (World.block_lt_of_cell? _ _ (hHeld.2.2))).trans (hHeld.2.2)
                                  refine ⟨_, rfl, ?_⟩
                                  have n0_ := Aside0.mk (Kd.R_elder' (by (with_reducible repeat (first | apply Kd.R_alloc | apply Kd.R_drewN | apply Kd.R_drew)); exact HO_7.out) (Kd.R_base ho0) hb)
                                  have n1_ := Aside0.mk (Kd.S_elder' (by (with_reducible repeat (first | apply Kd.S_alloc | apply Kd.S_drewN | apply Kd.S_drew)); exact HO_394000.out) (Kd.R_base ho0) hb)
                                  have n2_ := Aside0.mk (Kd.S_elder' (by (with_reducible repeat (first | apply Kd.S_alloc | apply Kd.S_drewN | apply Kd.S_drew)); exact HO_394001.out) (Kd.R_base ho0) hb)
                                  have n3_ := Aside0.mk (Kd.S_elder' (by (with_reducible repeat (first | apply Kd.S_alloc | apply Kd.S_drewN | apply Kd.S_drew)); exact HO_402000.out) (Kd.R_base ho0) hb)
                                  have n4_ := Aside0.mk (Kd.S_elder' (by (with_reducible repeat (first | apply Kd.S_alloc | apply Kd.S_drewN | apply Kd.S_drew)); exact HO_402001.out) (Kd.R_base ho0) hb)
                                  have n5_ := Aside0.mk (Kd.R_lower (Kd.R_new' ho0 (Kd.R_lt (by (with_reducible repeat (first | apply Kd.R_alloc | apply Kd.R_drewN | apply Kd.R_drew)); exact HO_7.out))) (below_size (by repeat (first | (with_reducible first | exact HB.out | apply below_alloc | apply pw_below_drewN | apply below_drew1 | refine below_set ?_ GE393.out | refine below_set ?_ GE401.out) | exact HB.out))))
                                  have n6_ := Aside0.mk (blk_below (g := gb393) (o := .cells #[.slice Ao15 t386.length co15, .slice Ao17 t389.length co17] 45 (0, 0)) (by (with_reducible repeat (first | refine blk_drewN ?_ _ | refine blk_drew ?_ | refine blk_alloc ?_ _)); exact BK393.out) hb)
                                  have n7_ := Aside0.mk (blk_below (g := gb401) (o := .cells #[.slice Ao20 t395.length co20, .slice Ao23 t398.length co23] 45 (0, 0)) (by (with_reducible repeat (first | refine blk_drewN ?_ _ | refine blk_drew ?_ | refine blk_alloc ?_ _)); exact BK401.out) hb)
                                  have n8_ := Aside0.mk (below_step (by repeat (first | (with_reducible first | exact HB.out | apply below_alloc | apply pw_below_drewN | apply below_drew1 | refine below_set ?_ GE393.out | refine below_set ?_ GE401.out) | exact HB.out)) hb)
                                  clear HO_7
                                  clear HO_394000
                                  clear HO_394001
                                  clear HO_402000
                                  clear HO_402001
                                  clear BK393
                                  clear BK401
                                  clear HB
                                  have HO_7 := n0_
                                  have HO_394000 := n1_
                                  have HO_394001 := n2_
                                  have HO_402000 := n3_
                                  have HO_402001 := n4_
                                  have HO420 := n5_
                                  have BK393 := n6_
                                  have BK401 := n7_
                                  have HB := n8_
                                  clear n0_ n1_ n2_ n3_ n4_ n5_ n6_ n7_ n8_
                                  (try clear hb)
                                  (try clear hb2)
                                  (try clear hk)
                                  (try clear hi)
                                  (try clear ho0)
                                  obtain ⟨Ao55, co55, eo55⟩ := Kd.R_slice HO420.out
                                  (first | subst eo55 | (injection eo55 with f1_ f2_ f3_; have f4_ := f1_.symm; have f5_ := f3_.symm; clear f1_ f2_ f3_; subst f4_; subst f5_))
                                  refine hK.out _ _ ⟨(blk_cell BK401.out 0).trans rfl, (blk_cell BK401.out 1).trans rfl, HS2_⟩ (fun hHeld => ?_)
                                  clear hK K
                                  refine norm_ (a' := ?_) ?_ ?_
                                  rotate_left
                                  · show Act.put _ (some 67) _ = _
                                    simp only [Act.put, List.setIfInBounds_toArray, List.set_cons_zero, List.set_cons_succ, i64_w, i32_w]
                                    rfl
                                  refine one_ (i := 7) (N := some 69) #[true, true, true, true, true, true, true, true, false] rfl rfl (one_of HT_.out (by kernel_rfl)) (by decide) (fun K hK => ?_)
                                  refine goes_ Try.func32 (by kernel_rfl) rfl #[.slice Ao55 t418.length co55, .int .i64 x6_3] (by rfl) rfl rfl (by (try simp only [List.map_toArray, List.map_cons, List.map_nil]); first | done | rfl | (simp only [List.length_drop, List.length_take]; rfl)) ?_
                                  with_reducible refine (lockstepref06_Has.calls k4 _ _ t418 x6_3 true _ ?side1 ?side2 A50.out).mono ?_
                                  (case side1 => repeat (first | exact (Kd.R_reads' HO420.out).2.2 | (with_reducible refine Kd.C_alloc ?_ _) | (with_reducible refine Kd.C_drewN ?_ _) | (with_reducible refine Kd.C_drew ?_)))
                                  (case side2 => exact (Kd.R_reads' HO420.out).2.1)
                                  rintro e w' ⟨rfl, ⟨nd, rfl⟩⟩
                                  refine ⟨_, rfl, ?_⟩
                                  refine hK.out _ _ ⟨(blk_cell BK401.out 0).trans rfl, (blk_cell BK401.out 1).trans rfl, hHeld.2.2⟩ (fun hHeld => ?_)
                                  clear hK K
                                  refine norm_ (a' := ?_) ?_ ?_
                                  rotate_left
                                  · show Act.put _ (some 69) _ = _
                                    simp only [Act.put, List.setIfInBounds_toArray, List.set_cons_zero, List.set_cons_succ, i64_w, i32_w]
                                    rfl
                                  refine pure_ (i := 8) (N := some 70) (v := ?_) (a' := ?_) #[true, true, true, true, true, true, true, true, true] rfl rfl (any_of HT_.out (by kernel_rfl)) (fun _ _ _ h => h) (Or.inl ⟨by rfl, ?_⟩) ?_ ?_
                                  rotate_left
                                  · intro w'
                                    go_simp
                                    with_reducible rfl
                                  rotate_left
                                  · simp only [Act.put, List.setIfInBounds_toArray, List.set_cons_zero, List.set_cons_succ, i64_w, i32_w]
                                    rfl
                                  refine done_ (done_of HT_.out (by kernel_rfl)) ?_
                                  try go_wp2
                                  go_roundg k4
                                  case measure => have := HJ3.out; have := HJ11.out; have := HK3.out; have := HK4.out; omega
                                  case rel => exact ⟨(wrap64 (x8_4 + 1)), (by first | rfl | exact congrArg (fun b => Ending.returned (Value.bool b)) HR_.out | (simp; done) | (simp [*]; done)), H', ⟨by have := HJ3.out; have := HJ11.out; have := HK3.out; have := HK4.out; omega⟩, ⟨by (with_reducible repeat (first | apply Kd.R_alloc | apply Kd.R_drewN | apply Kd.R_drew)); exact Kd.R_mono HO_7.out (fun _ hk => trivial)⟩, ⟨by (with_reducible repeat (first | apply Kd.S_alloc | apply Kd.S_drewN | apply Kd.S_drew)); exact Kd.S_mono HO_394000.out (fun _ hk => ⟨hk.1.1, ⟨hk.1.2.1, ⟨hk.1.2.2.1, hk.1.2.2.2⟩⟩⟩)⟩, ⟨by (with_reducible repeat (first | apply Kd.S_alloc | apply Kd.S_drewN | apply Kd.S_drew)); exact Kd.S_mono HO_394001.out (fun _ hk => ⟨hk.1.1, ⟨hk.1.2.1, ⟨hk.1.2.2.1, hk.1.2.2.2⟩⟩⟩)⟩, ⟨by (with_reducible repeat (first | apply Kd.S_alloc | apply Kd.S_drewN | apply Kd.S_drew)); exact Kd.S_mono HO_402000.out (fun _ hk => ⟨hk.1.1, ⟨hk.1.2.1, ⟨hk.1.2.2.1, hk.1.2.2.2⟩⟩⟩)⟩, ⟨by (with_reducible repeat (first | apply Kd.S_alloc | apply Kd.S_drewN | apply Kd.S_drew)); exact Kd.S_mono HO_402001.out (fun _ hk => ⟨hk.1.1, ⟨hk.1.2.1, ⟨hk.1.2.2.1, hk.1.2.2.2⟩⟩⟩)⟩, ⟨by (with_reducible repeat (first | refine blk_drewN ?_ _ | refine blk_drew ?_ | refine blk_alloc ?_ _)); exact BK393.out⟩, ⟨by (with_reducible repeat (first | refine blk_drewN ?_ _ | refine blk_drew ?_ | refine blk_alloc ?_ _)); exact BK401.out⟩, ⟨by repeat (first | (with_reducible first | exact HB.out | apply below_alloc | apply pw_below_drewN | apply below_drew1 | refine below_set ?_ GE393.out | refine below_set ?_ GE401.out) | exact HB.out)⟩⟩
                                · replace c51 := Bool.eq_false_iff.mpr c51
                                  subst c51
                                  have H1 : (some false) = some true := by rw [if_neg (show ¬ (false = true) by decide)] at H; exact H
                                  clear H
                                  have H := H1
                                  clear H1
                                  exact absurd H (by simp)
                              · rw [if_neg c48] at H
                                exact absurd H (by simp)
                            · rw [if_neg c47] at H
                              have c47b0 : decide (x8_4 < (t414.length : Int)) = false := decide_eq_false c47
                              clear c47
                              have H' := Aside0.mk H
                              clear H
                              obtain ⟨Ao56, co56, eo56⟩ := Kd.R_slice HO_7.out
                              subst eo56
                              go_wp2
                              go_roundg k4
                              case measure => have := HJ3.out; have := HJ11.out; have := HK3.out; have := HK4.out; omega
                              case rel => exact ⟨(wrap64 (x6_3 + 1)), (by first | rfl | exact congrArg (fun b => Ending.returned (Value.bool b)) HR_.out | (simp; done) | (simp [*]; done)), H', ⟨by have := HJ3.out; have := HJ11.out; have := HK3.out; have := HK4.out; omega⟩, ⟨by (with_reducible repeat (first | apply Kd.S_alloc | apply Kd.S_drewN | apply Kd.S_drew)); exact Kd.S_mono HO_394000.out (fun _ hk => ⟨hk.2.1, ⟨hk.2.2.1, hk.2.2.2⟩⟩)⟩, ⟨by (with_reducible repeat (first | apply Kd.S_alloc | apply Kd.S_drewN | apply Kd.S_drew)); exact Kd.S_mono HO_394001.out (fun _ hk => ⟨hk.2.1, ⟨hk.2.2.1, hk.2.2.2⟩⟩)⟩, ⟨by (with_reducible repeat (first | apply Kd.S_alloc | apply Kd.S_drewN | apply Kd.S_drew)); exact Kd.S_mono HO_402000.out (fun _ hk => ⟨hk.2.1, ⟨hk.2.2.1, hk.2.2.2⟩⟩)⟩, ⟨by (with_reducible repeat (first | apply Kd.S_alloc | apply Kd.S_drewN | apply Kd.S_drew)); exact Kd.S_mono HO_402001.out (fun _ hk => ⟨hk.2.1, ⟨hk.2.2.1, hk.2.2.2⟩⟩)⟩, ⟨by (with_reducible repeat (first | refine blk_drewN ?_ _ | refine blk_drew ?_ | refine blk_alloc ?_ _)); exact BK393.out⟩, ⟨by (with_reducible repeat (first | refine blk_drewN ?_ _ | refine blk_drew ?_ | refine blk_alloc ?_ _)); exact BK401.out⟩, ⟨by repeat (first | (with_reducible first | exact HB.out | apply below_alloc | apply pw_below_drewN | apply below_drew1 | refine below_set ?_ GE393.out | refine below_set ?_ GE401.out) | exact HB.out)⟩⟩
                      · rw [if_neg c42] at H
                        have c42b0 : decide (x6_3 < (l0.length : Int)) = false := decide_eq_false c42
                        clear c42
                        replace H := Option.bind_eq_some_iff.mp H
                        obtain ⟨t410, A570, H⟩ := H
                        replace H : ((lockstepref02_Ints.f k3 t410 ([] : List Int)).bind fun t413 => (some t413)) = some true := H
                        have A57 := Aside0.mk A570
                        clear A570
                        replace H := Option.bind_eq_some_iff.mp H
                        obtain ⟨t413, A580, H⟩ := H
                        replace H : (some t413) = some true := H
                        have A58 := Aside0.mk A580
                        clear A580
                        have HR_ := Aside0.mk (Option.some.inj H)
                        clear H
                        have hnb59 := NB393_401.out
                        have hnc59 := NB401_393.out
                        have hcz60_0 : wr.cell? ⟨gb393, 0, none⟩ = some (.slice Ao15 t386.length co15) := (blk_cell BK393.out 0).trans rfl
                        have hcz60_1 : wr.cell? ⟨gb393, 1, none⟩ = some (.slice Ao17 t389.length co17) := (blk_cell BK393.out 1).trans rfl
                        have hfz60_0 := blk_frozen BK393.out 0
                        have hfz60_1 := blk_frozen BK393.out 1
                        go_wp2_with (first | ((with_reducible refine gate_callee (f := 24) rfl ?_); refine goesL_ (some 74) rfl rfl Try.func24 (by kernel_rfl) rfl #[.agg #[.slice Ao15 t386.length co15, .slice Ao17 t389.length co17], .int .i64 (l0.length : Int)] rfl (by (try simp only [List.map_toArray, List.map_cons, List.map_nil]); first | done | rfl | (simp only [List.length_drop, List.length_take]; rfl)) ?_; (with_reducible refine (graph_Order.calls k3 _ _ t386 _ _ t389 (l0.length : Int) t410 _ ?side1 ?side2 ?side3 ?side4 A57.out).mono ?_); (case side1 => repeat (first | exact (Kd.S_reads' HO_394000.out).2.2 | (with_reducible refine Kd.C_alloc ?_ _) | (with_reducible refine Kd.C_drewN ?_ _) | (with_reducible refine Kd.C_drew ?_))); (case side2 => exact (Kd.S_reads' HO_394000.out).2.1); (case side3 => repeat (first | exact (Kd.S_reads' HO_394001.out).2.2 | (with_reducible refine Kd.C_alloc ?_ _) | (with_reducible refine Kd.C_drewN ?_ _) | (with_reducible refine Kd.C_drew ?_))); (case side4 => exact (Kd.S_reads' HO_394001.out).2.1); rintro e w61 ⟨v411, rfl, ho0, hb⟩; refine ⟨_, rfl, ?_⟩; have n0_ := Aside0.mk (Kd.S_elder' (by (with_reducible repeat (first | apply Kd.S_alloc | apply Kd.S_drewN | apply Kd.S_drew)); exact HO_394000.out) (Kd.R_base ho0) hb); have n1_ := Aside0.mk (Kd.S_elder' (by (with_reducible repeat (first | apply Kd.S_alloc | apply Kd.S_drewN | apply Kd.S_drew)); exact HO_394001.out) (Kd.R_base ho0) hb); have n2_ := Aside0.mk (Kd.S_elder' (by (with_reducible repeat (first | apply Kd.S_alloc | apply Kd.S_drewN | apply Kd.S_drew)); exact HO_402000.out) (Kd.R_base ho0) hb); have n3_ := Aside0.mk (Kd.S_elder' (by (with_reducible repeat (first | apply Kd.S_alloc | apply Kd.S_drewN | apply Kd.S_drew)); exact HO_402001.out) (Kd.R_base ho0) hb); have n4_ := Aside0.mk (Kd.R_lower ho0 (below_size (by repeat (first | (with_reducible first | exact HB.out | apply below_alloc | apply pw_below_drewN | apply below_drew1 | refine below_set ?_ GE393.out | refine below_set ?_ GE401.out) | exact HB.out)))); have n5_ := Aside0.mk (blk_below (g := gb393) (o := .cells #[.slice Ao15 t386.length co15, .slice Ao17 t389.length co17] 45 (0, 0)) (by (with_reducible repeat (first | refine blk_drewN ?_ _ | refine blk_drew ?_ | refine blk_alloc ?_ _)); exact BK393.out) hb); have n6_ := Aside0.mk (blk_below (g := gb401) (o := .cells #[.slice Ao20 t395.length co20, .slice Ao23 t398.length co23] 45 (0, 0)) (by (with_reducible repeat (first | refine blk_drewN ?_ _ | refine blk_drew ?_ | refine blk_alloc ?_ _)); exact BK401.out) hb); have n7_ := Aside0.mk (below_step (by repeat (first | (with_reducible first | exact HB.out | apply below_alloc | apply pw_below_drewN | apply below_drew1 | refine below_set ?_ GE393.out | refine below_set ?_ GE401.out) | exact HB.out)) hb); clear HO_394000; clear HO_394001; clear HO_402000; clear HO_402001; clear BK393; clear BK401; clear HB; have HO_394000 := n0_; have HO_394001 := n1_; have HO_402000 := n2_; have HO_402001 := n3_; have HO412 := n4_; have BK393 := n5_; have BK401 := n6_; have HB := n7_; clear n0_ n1_ n2_ n3_ n4_ n5_ n6_ n7_; (try clear hb); (try clear hb2); (try clear hk); (try clear hi); (try clear ho0); obtain ⟨Ao62, co62, eo62⟩ := Kd.R_slice HO412.out; subst eo62) | ((with_reducible refine gate_callee (f := 20) rfl ?_); refine goesL_ (some 75) rfl rfl Try.func20 (by kernel_rfl) rfl #[.slice Ao62 t410.length co62, .slice none 0 0] rfl (by (try simp only [List.map_toArray, List.map_cons, List.map_nil]); first | done | rfl | (simp only [List.length_drop, List.length_take]; rfl)) ?_; (refine (lockstepref02_Ints.calls k3 _ _ t410 _ _ ([] : List Int) t413 _ ?side1 ?side2 ?side3 ?side4 A58.out).mono ?_); (case side1 => repeat (first | exact (Kd.R_reads' HO412.out).2.2 | (with_reducible refine Kd.C_alloc ?_ _) | (with_reducible refine Kd.C_drewN ?_ _) | (with_reducible refine Kd.C_drew ?_))); (case side2 => exact (Kd.R_reads' HO412.out).2.1); (case side3 => exact Kd.C_nil _ _); (case side4 => exact Nat.le_refl _); rintro e w' ⟨rfl, ⟨nd, rfl⟩⟩; refine ⟨_, rfl, ?_⟩))
                        go_ret
                        exact ⟨by first | rfl | exact congrArg (fun b => Ending.returned (Value.bool b)) HR_.out | (simp [errW_none, errW_some] <;> rfl) | (simp [*, errW_none, errW_some] <;> rfl), by repeat (first | (with_reducible first | exact HB.out | apply below_alloc | apply pw_below_drewN | apply below_drew1 | refine below_set ?_ GE393.out | refine below_set ?_ GE401.out) | exact HB.out)⟩
          · rw [if_neg c10] at H
            have c10b0 : (t392 == 0) = false := beq_eq_false_iff_ne.mpr c10
            have c10b1 : (t392 != 0) = true := bne_iff_ne.mpr c10
            by_cases c63 : (t386.length : Int) = 0
            · rw [if_pos c63] at H
              have c63b0 : ((t386.length : Int) == 0) = true := beq_iff_eq.mpr c63
              have c63b1 : ((t386.length : Int) != 0) = false := bne_eq_false_iff_eq.mpr c63
              clear c63
              replace H := Option.bind_eq_some_iff.mp H
              obtain ⟨t394, A640, H⟩ := H
              replace H : (some (!t394)) = some true := H
              have A64 := Aside0.mk A640
              clear A640
              have HR_ := Aside0.mk (Option.some.inj H)
              clear H
              go_wp2_with (first | ((with_reducible refine gate_callee (f := 23) rfl ?_); refine goesL_ (some 21) rfl rfl Try.func23 (by kernel_rfl) rfl #[.slice A0 l0.length c0] rfl (by (try simp only [List.map_toArray, List.map_cons, List.map_nil]); first | done | rfl | (simp only [List.length_drop, List.length_take]; rfl)) ?_; (with_reducible refine (graph_Make.calls kj3 _ _ l0 t386 t389 t392 _ ?side1 ?side2 A9.out).mono ?_); (case side1 => repeat (first | exact (Kd.C_below HR0.out HB.out) | (with_reducible refine Kd.C_alloc ?_ _) | (with_reducible refine Kd.C_drewN ?_ _) | (with_reducible refine Kd.C_drew ?_))); (case side2 => exact HC0.out); rintro e w65 ⟨v387, v390, rfl, ho0, ho1, hb⟩; refine ⟨_, rfl, ?_⟩; have n0_ := Aside0.mk (Kd.S_lower ho0 (below_size (by repeat (first | (with_reducible first | exact HB.out | apply below_alloc | apply pw_below_drewN | apply below_drew1) | exact HB.out)))); have n1_ := Aside0.mk (Kd.S_lower ho1 (below_size (by repeat (first | (with_reducible first | exact HB.out | apply below_alloc | apply pw_below_drewN | apply below_drew1) | exact HB.out)))); have n2_ := Aside0.mk (below_step (by repeat (first | (with_reducible first | exact HB.out | apply below_alloc | apply pw_below_drewN | apply below_drew1) | exact HB.out)) hb); clear HB; have HO388 := n0_; have HO391 := n1_; have HB := n2_; clear n0_ n1_ n2_; (try clear hb); (try clear hb2); (try clear hk); (try clear hi); (try clear ho0); (try clear ho1)) | ((with_reducible refine gate_dst (N := 3) rfl ?_); refine box_event ?hg (N := 3) ?hd (cs := #[.slice none 0 0, .slice none 0 0]) (t := 45) ?hr ?_; (case hd => rfl); (case hg => rfl); (case hr => first | (go_simp; done) | (go_simp; rfl)); intro gb393 hg w66 hbox hb; have n0_ := Aside0.mk (Kd.S_below (by (with_reducible repeat (first | apply Kd.S_alloc | apply Kd.S_drewN | apply Kd.S_drew)); exact HO388.out) hb); have n1_ := Aside0.mk (Kd.S_below (by (with_reducible repeat (first | apply Kd.S_alloc | apply Kd.S_drewN | apply Kd.S_drew)); exact HO391.out) hb); have n2_ := Aside0.mk (below_step (by repeat (first | (with_reducible first | exact HB.out | apply below_alloc | apply pw_below_drewN | apply below_drew1) | exact HB.out)) hb); have n3_ := Aside0.mk (hbox); have n4_ := Aside0.mk ((by rw [hg]; exact (below_size (by repeat (first | (with_reducible first | exact HB.out | apply below_alloc | apply pw_below_drewN | apply below_drew1) | exact HB.out))) : w.heap.size ≤ gb393)); have n5_ := Aside0.mk ((by rw [hg]; exact (below_size (by repeat (first | (with_reducible first | exact HB.out | apply below_alloc | apply pw_below_drewN | apply below_drew1) | exact HB.out))) : w.heap.size ≤ gb393)); clear HO388; clear HO391; clear HB; have HO388 := n0_; have HO391 := n1_; have HB := n2_; have BK393 := n3_; have GW393 := n4_; have GE393 := n5_; clear n0_ n1_ n2_ n3_ n4_ n5_; clear hb hbox hg; obtain ⟨Ao67, co67, eo67⟩ := Kd.S_slice HO388.out; subst eo67; have hcz68_0 : w66.cell? ⟨gb393, 0, none⟩ = some (.slice none 0 0) := (blk_cell BK393.out 0).trans rfl; have hcz68_1 : w66.cell? ⟨gb393, 1, none⟩ = some (.slice none 0 0) := (blk_cell BK393.out 1).trans rfl; have hfz68_0 := blk_frozen BK393.out 0; have hfz68_1 := blk_frozen BK393.out 1; obtain ⟨Ao69, co69, eo69⟩ := Kd.S_slice HO391.out; subst eo69) | (go_at_call 29; (with_reducible refine (graph_May.calls kj3 _ _ t386 _ _ t389 t394 _ ?side1 ?side2 ?side3 ?side4 A64.out).mono ?_); (case side1 => refine (Kd.S_reads' (e := 33) (base := w.heap.size) (ok := fun k_ => some k_ ≠ (.slice Ao69 t389.length co69 : Value).ownBlock) (n := t386.length) (c := co67) ?_).2.2; exact (by (with_reducible repeat (first | apply Kd.S_alloc | apply Kd.S_drewN | apply Kd.S_drew)); exact (Kd.S_mono (Kd.S_far (p := ⟨gb393, 1, none⟩) (Kd.S_far (p := ⟨gb393, 0, none⟩) (Kd.S_types HO388.out BK393.out (by decide)) (fun _ hk => hk.2) (.slice Ao67 t386.length co67)) (fun _ hk => hk.2) (.slice Ao69 t389.length co69)) (fun _ h_ => h_.1)))); (case side2 => exact (Kd.S_reads' HO388.out).2.1); (case side3 => refine (Kd.S_reads' (e := 33) (base := w.heap.size) (ok := fun k_ => some k_ ≠ (.slice Ao67 t386.length co67 : Value).ownBlock) (n := t389.length) (c := co69) ?_).2.2; exact (by (with_reducible repeat (first | apply Kd.S_alloc | apply Kd.S_drewN | apply Kd.S_drew)); exact (Kd.S_mono (Kd.S_far (p := ⟨gb393, 1, none⟩) (Kd.S_far (p := ⟨gb393, 0, none⟩) (Kd.S_types HO391.out BK393.out (by decide)) (fun _ hk => hk.2) (.slice Ao67 t386.length co67)) (fun _ hk => hk.2) (.slice Ao69 t389.length co69)) (fun _ h_ => h_.1)))); (case side4 => exact (Kd.S_reads' HO391.out).2.1); rintro e w70 ⟨rfl, hb⟩; have n0_ := Aside0.mk (Kd.S_below (by (with_reducible repeat (first | apply Kd.S_alloc | apply Kd.S_drewN | apply Kd.S_drew)); exact (Kd.S_mono (Kd.S_far (p := ⟨gb393, 1, none⟩) (Kd.S_far (p := ⟨gb393, 0, none⟩) (Kd.S_types HO388.out BK393.out (by decide)) (fun _ hk => hk.2) (.slice Ao67 t386.length co67)) (fun _ hk => hk.2) (.slice Ao69 t389.length co69)) (fun _ h_ => h_.1))) hb); have n1_ := Aside0.mk (Kd.S_below (by (with_reducible repeat (first | apply Kd.S_alloc | apply Kd.S_drewN | apply Kd.S_drew)); exact (Kd.S_mono (Kd.S_far (p := ⟨gb393, 1, none⟩) (Kd.S_far (p := ⟨gb393, 0, none⟩) (Kd.S_types HO391.out BK393.out (by decide)) (fun _ hk => hk.2) (.slice Ao67 t386.length co67)) (fun _ hk => hk.2) (.slice Ao69 t389.length co69)) (fun _ h_ => h_.1))) hb); have n2_ := Aside0.mk (blk_below (g := gb393) (o := .cells #[.slice Ao67 t386.length co67, .slice Ao69 t389.length co69] 45 (0, 0)) (by (with_reducible repeat (first | refine blk_drewN ?_ _ | refine blk_drew ?_ | refine blk_alloc ?_ _)); refine blk_put (cs := #[.slice Ao67 t386.length co67, .slice none 0 0]) ?_ 1 _ rfl; (with_reducible repeat (first | refine blk_drewN ?_ _ | refine blk_drew ?_ | refine blk_alloc ?_ _)); refine blk_put (cs := #[.slice none 0 0, .slice none 0 0]) ?_ 0 _ rfl; (with_reducible repeat (first | refine blk_drewN ?_ _ | refine blk_drew ?_ | refine blk_alloc ?_ _)); exact BK393.out) hb); have n3_ := Aside0.mk (below_step (by repeat (first | (with_reducible first | exact HB.out | apply below_alloc | apply pw_below_drewN | apply below_drew1 | refine below_set ?_ GE393.out) | exact HB.out)) hb); clear HO388; clear HO391; clear BK393; clear HB; have HO388 := n0_; have HO391 := n1_; have BK393 := n2_; have HB := n3_; clear n0_ n1_ n2_ n3_; (try clear hb); (try clear hb2); (try clear hk); (try clear hi)))
              go_ret
              exact ⟨by first | rfl | exact congrArg (fun b => Ending.returned (Value.bool b)) HR_.out | (simp [errW_none, errW_some] <;> rfl) | (simp [*, errW_none, errW_some] <;> rfl), by repeat (first | (with_reducible first | exact HB.out | apply below_alloc | apply pw_below_drewN | apply below_drew1 | refine below_set ?_ GE393.out) | exact HB.out)⟩
            · rw [if_neg c63] at H
              have c63b0 : ((t386.length : Int) == 0) = false := beq_eq_false_iff_ne.mpr c63
              have c63b1 : ((t386.length : Int) != 0) = true := bne_iff_ne.mpr c63
              have c63b2 : ¬ (t386 = []) := fun h_ => c63 (by rw [h_]; rfl)
              exact absurd H (by simp)
  · replace c3 := Bool.eq_false_iff.mpr c3
    subst c3
    have H1 : (some false) = some true := by rw [if_neg (show ¬ (false = true) by decide)] at H; exact H
    clear H
    have H := H1
    clear H1
    exact absurd H (by simp)

/-- THE ONE PURE STATEMENT of locksteplaw06_GraphTurned: yours. -/
def locksteplaw06_GraphTurned.Pure : Prop := ∀ (l0 : List (List Int)), RowsOk .i64 l0 → ∃ k, locksteplaw06_GraphTurned.f k l0 = some true
theorem locksteplaw06_GraphTurned.walk (P : locksteplaw06_GraphTurned.Pure) (a0 : Option Addr) (cap0 : Nat) (l0 : List (List Int)) (w : World) (w0 : Kd.C (Kd.slice 3 (Kd.int .i64)) w a0 l0.length l0) (y0 : l0.length ≤ cap0) (m0 : RowsOk .i64 l0) :
    Calls Try.prog 11 #[.slice a0 l0.length cap0] w fun e w' => e = .returned (.bool true) ∧ Below w.heap.size w w' := by
  obtain ⟨k, h⟩ := P l0 m0
  refine (locksteplaw06_GraphTurned.calls k _ _ l0 w w0 y0 h).mono ?_
  rintro e w' ⟨rfl, hd⟩
  exact ⟨rfl, hd⟩

end Go.Proofs.Ytokfaaemhniodaa.G
