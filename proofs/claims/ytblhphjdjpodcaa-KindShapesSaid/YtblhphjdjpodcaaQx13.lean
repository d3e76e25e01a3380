/- Printed by a program of this session (wip/tools/op.py, over the kit's print program): Go functions as plain Lean functions, each with a proof that the call answers so. Conditions: each theorem's own. -/
import Derived.Test.YtblhphjdjpodcaaQx0
import Derived.Test.YtblhphjdjpodcaaQx3
import Derived.Test.YtblhphjdjpodcaaQx12
namespace Go.Proofs.Ytblhphjdjpodcaa.Q
open Go.Proofs.YtblhphjdjpodcaaH
open Go.RowKit Go.Proofs.YtblhphjdjpodcaaW.PrintWords Go.Proofs.YtblhphjdjpodcaaW.PrintLast Go.Proofs.YtblhphjdjpodcaaW.PrintMore
attribute [local go_sem] max2_int min2_int max_two min_two max_three min_three max_four min_four   -- for this text's walks alone
set_option linter.unusedVariables false
set_option linter.unusedSimpArgs false

/-! ### locksteplaw03_KindShapes: function 3 -/
mutual
def locksteplaw03_KindShapes.j0 : Nat → Int → Int → Bool → Bool → Option (Bool)
 | 0, _, _, _, _ => none
 | k + 1, x0, x1, x5, x25 => if x25 = true then (some false) else (if x5 = true then (if x1 > 1 then ((kind_Shape.f x0 (wrap64 (Int.tdiv x1 2))).bind fun t144 => (locksteplaw03_KindShapes.j1 k x0 x5 (!t144))) else (locksteplaw03_KindShapes.j1 k x0 x5 false)) else (locksteplaw03_KindShapes.j1 k x0 x5 false))
def locksteplaw03_KindShapes.j1 : Nat → Int → Bool → Bool → Option (Bool)
 | 0, _, _, _ => none
 | k + 1, x0, x5, x37 => if x37 = true then (some false) else (if x5 = true then ((kind_Shape.f x0 1).bind fun t145 => (if t145 = true then ((kind_Shape.f x0 0).bind fun t146 => (if t146 = true then (some false) else ((kind_Shape.f x0 3).bind fun t147 => (if t147 = true then (some false) else ((kind_Shape.f x0 32).bind fun t148 => (some (!t148))))))) else (some false))) else (some true))
end
def locksteplaw03_KindShapes.f (k : Nat) (a0 : Int) (a1 : Int) : Option (Bool) := (locksteplaw03_awake.f k).bind fun t142 => (if t142 = true then ((kind_Shape.f a0 a1).bind fun t143 => (if t143 = true then (if a1 > 1 then (if a0 < 8 then (locksteplaw03_KindShapes.j0 k a0 a1 t143 true) else (locksteplaw03_KindShapes.j0 k a0 a1 t143 (decide ((wrap64 (a0 * a1)) > 128)))) else (locksteplaw03_KindShapes.j0 k a0 a1 t143 false)) else (locksteplaw03_KindShapes.j0 k a0 a1 t143 false))) else (some false))
theorem locksteplaw03_KindShapes.mono_l : ∀ k, (∀ y0 y1 y2 y3, LeO (locksteplaw03_KindShapes.j0 k y0 y1 y2 y3) (locksteplaw03_KindShapes.j0 (k + 1) y0 y1 y2 y3)) ∧ (∀ y0 y1 y2, LeO (locksteplaw03_KindShapes.j1 k y0 y1 y2) (locksteplaw03_KindShapes.j1 (k + 1) y0 y1 y2))
 | 0 => ⟨fun _ _ _ _ r h => by simp [locksteplaw03_KindShapes.j0] at h, fun _ _ _ r h => by simp [locksteplaw03_KindShapes.j1] at h⟩
 | k + 1 => by
  obtain ⟨ih0, ih1⟩ := locksteplaw03_KindShapes.mono_l k
  refine ⟨?_, ?_⟩
  ·intro y0 y1 y2 y3
   unfold locksteplaw03_KindShapes.j0
   repeat' first
   | (with_reducible exact ih0 _ _ _ _)
   | (with_reducible exact ih1 _ _ _)
   | (with_reducible exact locksteplaw03_awake.mono _)
   | (with_reducible exact LeO.refl _)
   | (with_reducible exact LeO.none _)
   | (with_reducible refine LeO.ite ?_ ?_)
   | (with_reducible refine LeO.bind ?_ (fun _ => ?_))
   | exact ih0 _ _ _ _
   | exact ih1 _ _ _
   | exact locksteplaw03_awake.mono _
   | exact LeO.none _
   | refine LeO.ite ?_ ?_
   | refine LeO.bind ?_ (fun _ => ?_)
  ·intro y0 y1 y2
   unfold locksteplaw03_KindShapes.j1
   repeat' first
   | (with_reducible exact ih0 _ _ _ _)
   | (with_reducible exact ih1 _ _ _)
   | (with_reducible exact locksteplaw03_awake.mono _)
   | (with_reducible exact LeO.refl _)
   | (with_reducible exact LeO.none _)
   | (with_reducible refine LeO.ite ?_ ?_)
   | (with_reducible refine LeO.bind ?_ (fun _ => ?_))
   | exact ih0 _ _ _ _
   | exact ih1 _ _ _
   | exact locksteplaw03_awake.mono _
   | exact LeO.none _
   | refine LeO.ite ?_ ?_
   | refine LeO.bind ?_ (fun _ => ?_)
theorem locksteplaw03_KindShapes.mono : ∀ a0 a1 k, LeO (locksteplaw03_KindShapes.f k a0 a1) (locksteplaw03_KindShapes.f (k + 1) a0 a1) := by
 intro a0 a1 k
 obtain ⟨ih0, ih1⟩ := locksteplaw03_KindShapes.mono_l k
 unfold locksteplaw03_KindShapes.f
 repeat' first
  | (with_reducible exact ih0 _ _ _ _)
  | (with_reducible exact ih1 _ _ _)
  | (with_reducible exact locksteplaw03_awake.mono _)
  | (with_reducible exact LeO.refl _)
  | (with_reducible exact LeO.none _)
  | (with_reducible refine LeO.ite ?_ ?_)
  | (with_reducible refine LeO.bind ?_ (fun _ => ?_))
  | exact ih0 _ _ _ _
  | exact ih1 _ _ _
  | exact locksteplaw03_awake.mono _
  | exact LeO.none _
  | refine LeO.ite ?_ ?_
  | refine LeO.bind ?_ (fun _ => ?_)
set_option maxHeartbeats 8000000 in
set_option maxRecDepth 100000 in
theorem locksteplaw03_KindShapes.calls (k : Nat) (a0 : Int) (a1 : Int) (w : World) (h : locksteplaw03_KindShapes.f k a0 a1 = some true) :
 Calls Try.prog 3 #[.int .i64 a0, .int .i64 a1] w fun e w' => e = .returned (.bool true) ∧ Below w.heap.size w w' := by
 have HB := Aside0.mk (Below.refl w.heap.size w)
 have H : ((locksteplaw03_awake.f k).bind fun t142 => (if t142 = true then ((kind_Shape.f a0 a1).bind fun t143 => (if t143 = true then (if a1 > 1 then (if a0 < 8 then (locksteplaw03_KindShapes.j0 k a0 a1 t143 true) else (locksteplaw03_KindShapes.j0 k a0 a1 t143 (decide ((wrap64 (a0 * a1)) > 128)))) else (locksteplaw03_KindShapes.j0 k a0 a1 t143 false)) else (locksteplaw03_KindShapes.j0 k a0 a1 t143 false))) else (some false))) = some true := h
 clear h
 replace H := Option.bind_eq_some_iff.mp H
 obtain ⟨t142, A30, H⟩ := H
 replace H : (if t142 = true then ((kind_Shape.f a0 a1).bind fun t143 => (if t143 = true then (if a1 > 1 then (if a0 < 8 then (locksteplaw03_KindShapes.j0 k a0 a1 t143 true) else (locksteplaw03_KindShapes.j0 k a0 a1 t143 (decide ((wrap64 (a0 * a1)) > 128)))) else (locksteplaw03_KindShapes.j0 k a0 a1 t143 false)) else (locksteplaw03_KindShapes.j0 k a0 a1 t143 false))) else (some false)) = some true := H
 have A3 := Aside0.mk A30
 clear A30
 by_cases c4 : t142 = true
 ·subst c4
  have H1 : ((kind_Shape.f a0 a1).bind fun t143 => (if t143 = true then (if a1 > 1 then (if a0 < 8 then (locksteplaw03_KindShapes.j0 k a0 a1 t143 true) else (locksteplaw03_KindShapes.j0 k a0 a1 t143 (decide ((wrap64 (a0 * a1)) > 128)))) else (locksteplaw03_KindShapes.j0 k a0 a1 t143 false)) else (locksteplaw03_KindShapes.j0 k a0 a1 t143 false))) = some true := by rw [if_pos rfl] at H; exact H
  clear H
  have H := H1
  clear H1
  replace H := Option.bind_eq_some_iff.mp H
  obtain ⟨t143, A50, H⟩ := H
  replace H : (if t143 = true then (if a1 > 1 then (if a0 < 8 then (locksteplaw03_KindShapes.j0 k a0 a1 t143 true) else (locksteplaw03_KindShapes.j0 k a0 a1 t143 (decide ((wrap64 (a0 * a1)) > 128)))) else (locksteplaw03_KindShapes.j0 k a0 a1 t143 false)) else (locksteplaw03_KindShapes.j0 k a0 a1 t143 false)) = some true := H
  have A5 := Aside0.mk A50
  clear A50
  have HC6 := Aside0.mk H
  clear H
  go_enter Try.func3, Try.ntmps3
  go_upto_region 4 with (first | ((with_reducible refine gate_callee (f := 9) rfl ?_); refine goesL_ (some 6) rfl rfl Try.func9 (by kernel_rfl) rfl #[] rfl (by (try simp only [List.map_toArray, List.map_cons, List.map_nil]); first | done | rfl | (simp only [List.length_drop, List.length_take]; rfl)) ?_; (with_reducible refine (locksteplaw03_awake.calls k   _ A3.out).mono ?_); rintro e w7 ⟨rfl, hb⟩; refine ⟨_, rfl, ?_⟩; have n0_ := Aside0.mk (below_step (B_) hb); clear HB; have HB := n0_; clear n0_; (try clear hb); (try clear hb2); (try clear hk); (try clear hi)) | ((with_reducible refine gate_callee (f := 10) rfl ?_); refine goesL_ (some 10) rfl rfl Try.func10 (by kernel_rfl) rfl #[.int .i64 a0, .int .i64 a1] rfl (by (try simp only [List.map_toArray, List.map_cons, List.map_nil]); first | done | rfl | (simp only [List.length_drop, List.length_take]; rfl)) ?_; (with_reducible refine (kind_Shape.calls a0 a1 t143 _ A5.out).mono ?_); rintro e w' ⟨rfl, ⟨nd, rfl⟩⟩; refine ⟨_, rfl, ?_⟩))
  (try simp only [Act.put, List.setIfInBounds_toArray, List.set_cons_zero, List.set_cons_succ])
  go_cut [25] (fun v25 wc => ∃ (kq : Nat) (x25_5 : Bool), v25 = .bool x25_5 ∧ Aside0 (locksteplaw03_KindShapes.j0 kq a0 a1 t143 x25_5 = some true) ∧ Aside0 (kq ≤ k) ∧ Aside0 (Below w.heap.size w wc))
  case first =>
   have H := HC6.out
   clear HC6
   by_cases c8 : t143 = true
   ·subst c8
    have H1 : (if a1 > 1 then (if a0 < 8 then (locksteplaw03_KindShapes.j0 k a0 a1 true true) else (locksteplaw03_KindShapes.j0 k a0 a1 true (decide ((wrap64 (a0 * a1)) > 128)))) else (locksteplaw03_KindShapes.j0 k a0 a1 true false)) = some true := by rw [if_pos rfl] at H; exact H
    clear H
    have H := H1
    clear H1
    by_cases c9 : a1 > 1
    ·rw [if_pos c9] at H
     have c9b0 : decide (1 < a1) = true := decide_eq_true c9
     clear c9
     (first | rw [c9b0] | (simp only [i64_w, i32_w]; rw [c9b0]) | skip)
     by_cases c10 : a0 < 8
     ·rw [if_pos c10] at H
      have c10b0 : decide (a0 < 8) = true := decide_eq_true c10
      clear c10
      have H' := Aside0.mk H
      clear H
      go_wp2
      go_meet
      case rel => exact ⟨_, (true), (by first | rfl | exact congrArg (fun b => Ending.returned (Value.bool b)) HR_.out | (simp; done) | (simp [*]; done)), H', ⟨by first | omega | exact Nat.le_refl _⟩, ⟨B_⟩⟩
     rw [if_neg c10] at H
     have c10b0 : decide (a0 < 8) = false := decide_eq_false c10
     clear c10
     have H' := Aside0.mk H
     clear H
     go_wp2
     go_meet
     case rel => exact ⟨_, (decide ((wrap64 (a0 * a1)) > 128)), (by first | rfl | exact congrArg (fun b => Ending.returned (Value.bool b)) HR_.out | (simp; done) | (simp [*]; done)), H', ⟨by first | omega | exact Nat.le_refl _⟩, ⟨B_⟩⟩
    rw [if_neg c9] at H
    have c9b0 : decide (1 < a1) = false := decide_eq_false c9
    clear c9
    (first | rw [c9b0] | (simp only [i64_w, i32_w]; rw [c9b0]) | skip)
    have H' := Aside0.mk H
    clear H
    go_wp2
    go_meet
    case rel => exact ⟨_, (false), (by first | rfl | exact congrArg (fun b => Ending.returned (Value.bool b)) HR_.out | (simp; done) | (simp [*]; done)), H', ⟨by first | omega | exact Nat.le_refl _⟩, ⟨B_⟩⟩
   replace c8 := Bool.eq_false_iff.mpr c8
   subst c8
   have H1 : (locksteplaw03_KindShapes.j0 k a0 a1 false false) = some true := by rw [if_neg (show ¬ (false = true) by decide)] at H; exact H
   clear H
   have H := H1
   clear H1
   have H' := Aside0.mk H
   clear H
   go_wp2
   go_meet
   case rel => exact ⟨_, (false), (by first | rfl | exact congrArg (fun b => Ending.returned (Value.bool b)) HR_.out | (simp; done) | (simp [*]; done)), H', ⟨by first | omega | exact Nat.le_refl _⟩, ⟨B_⟩⟩
  case rest =>
   clear HC6
   try clear c1
   try clear p2
   try clear c3
   try clear c4
   try clear p6
   try clear c8
   try clear c9
   try clear c9b0
   try clear c10
   try clear c10b0
   obtain ⟨kq, x25_5, rfl, HA, HJ5, HB⟩ := hcut
   cases kq with
   | zero => exact absurd HA.out (by simp [locksteplaw03_KindShapes.j0])
   | succ kj5 =>
    have H := HA.out
    clear HA
    simp only [locksteplaw03_KindShapes.j0] at H
    by_cases c11 : x25_5 = true
    ·subst c11
     have H1 : (some false) = some true := by rw [if_pos rfl] at H; exact H
     clear H
     have H := H1
     clear H1
     exact absurd H (by simp)
    replace c11 := Bool.eq_false_iff.mpr c11
    subst c11
    have H1 : (if t143 = true then (if a1 > 1 then ((kind_Shape.f a0 (wrap64 (Int.tdiv a1 2))).bind fun t144 => (locksteplaw03_KindShapes.j1 kj5 a0 t143 (!t144))) else (locksteplaw03_KindShapes.j1 kj5 a0 t143 false)) else (locksteplaw03_KindShapes.j1 kj5 a0 t143 false)) = some true := by rw [if_neg (show ¬ (false = true) by decide)] at H; exact H
    clear H
    have H := H1
    clear H1
    have HC12 := Aside0.mk H
    clear H
    go_upto_region 6 with (fail)
    go_cut [37] (fun v37 wc => ∃ (kq : Nat) (x37_11 : Bool), v37 = .bool x37_11 ∧ Aside0 (locksteplaw03_KindShapes.j1 kq a0 t143 x37_11 = some true) ∧ Aside0 (kq ≤ kj5) ∧ Aside0 (Below w.heap.size w wc))
    case first =>
     have H := HC12.out
     clear HC12
     by_cases c13 : t143 = true
     ·subst c13
      have H1 : (if a1 > 1 then ((kind_Shape.f a0 (wrap64 (Int.tdiv a1 2))).bind fun t144 => (locksteplaw03_KindShapes.j1 kj5 a0 true (!t144))) else (locksteplaw03_KindShapes.j1 kj5 a0 true false)) = some true := by rw [if_pos rfl] at H; exact H
      clear H
      have H := H1
      clear H1
      by_cases c14 : a1 > 1
      ·rw [if_pos c14] at H
       have c14b0 : decide (1 < a1) = true := decide_eq_true c14
       clear c14
       (first | rw [c14b0] | (simp only [i64_w, i32_w]; rw [c14b0]) | skip)
       replace H := Option.bind_eq_some_iff.mp H
       obtain ⟨t144, A150, H⟩ := H
       replace H : (locksteplaw03_KindShapes.j1 kj5 a0 true (!t144)) = some true := H
       have A15 := Aside0.mk A150
       clear A150
       have H' := Aside0.mk H
       clear H
       go_wp2_with (first | (go_at_call 10; (with_reducible refine (kind_Shape.calls a0 (wrap64 (Int.tdiv a1 2)) t144 _ A15.out).mono ?_); rintro e w' ⟨rfl, ⟨nd, rfl⟩⟩))
       go_meet
       case rel => exact ⟨_, (!t144), (by first | rfl | exact congrArg (fun b => Ending.returned (Value.bool b)) HR_.out | (simp; done) | (simp [*]; done)), H', ⟨by have := HJ5.out; first | omega | exact Nat.le_refl _⟩, ⟨B_⟩⟩
      rw [if_neg c14] at H
      have c14b0 : decide (1 < a1) = false := decide_eq_false c14
      clear c14
      (first | rw [c14b0] | (simp only [i64_w, i32_w]; rw [c14b0]) | skip)
      have H' := Aside0.mk H
      clear H
      go_wp2
      go_meet
      case rel => exact ⟨_, (false), (by first | rfl | exact congrArg (fun b => Ending.returned (Value.bool b)) HR_.out | (simp; done) | (simp [*]; done)), H', ⟨by have := HJ5.out; first | omega | exact Nat.le_refl _⟩, ⟨B_⟩⟩
     replace c13 := Bool.eq_false_iff.mpr c13
     subst c13
     have H1 : (locksteplaw03_KindShapes.j1 kj5 a0 false false) = some true := by rw [if_neg (show ¬ (false = true) by decide)] at H; exact H
     clear H
     have H := H1
     clear H1
     have H' := Aside0.mk H
     clear H
     go_wp2
     go_meet
     case rel => exact ⟨_, (false), (by first | rfl | exact congrArg (fun b => Ending.returned (Value.bool b)) HR_.out | (simp; done) | (simp [*]; done)), H', ⟨by have := HJ5.out; first | omega | exact Nat.le_refl _⟩, ⟨B_⟩⟩
    case rest =>
     clear HC12
     try clear c1
     try clear p2
     try clear c3
     try clear c4
     try clear p6
     try clear c8
     try clear c9
     try clear c9b0
     try clear c10
     try clear c10b0
     try clear c11
     try clear c13
     try clear c14
     try clear c14b0
     try clear p2
     try clear p6
     obtain ⟨kq, x37_11, rfl, HA, HJ11, HB⟩ := hcut
     cases kq with
     | zero => exact absurd HA.out (by simp [locksteplaw03_KindShapes.j1])
     | succ kj11 =>
      have H := HA.out
      clear HA
      simp only [locksteplaw03_KindShapes.j1] at H
      by_cases c16 : x37_11 = true
      ·subst c16
       have H1 : (some false) = some true := by rw [if_pos rfl] at H; exact H
       clear H
       have H := H1
       clear H1
       exact absurd H (by simp)
      replace c16 := Bool.eq_false_iff.mpr c16
      subst c16
      have H1 : (if t143 = true then ((kind_Shape.f a0 1).bind fun t145 => (if t145 = true then ((kind_Shape.f a0 0).bind fun t146 => (if t146 = true then (some false) else ((kind_Shape.f a0 3).bind fun t147 => (if t147 = true then (some false) else ((kind_Shape.f a0 32).bind fun t148 => (some (!t148))))))) else (some false))) else (some true)) = some true := by rw [if_neg (show ¬ (false = true) by decide)] at H; exact H
      clear H
      have H := H1
      clear H1
      by_cases c17 : t143 = true
      ·subst c17
       have H1 : ((kind_Shape.f a0 1).bind fun t145 => (if t145 = true then ((kind_Shape.f a0 0).bind fun t146 => (if t146 = true then (some false) else ((kind_Shape.f a0 3).bind fun t147 => (if t147 = true then (some false) else ((kind_Shape.f a0 32).bind fun t148 => (some (!t148))))))) else (some false))) = some true := by rw [if_pos rfl] at H; exact H
       clear H
       have H := H1
       clear H1
       replace H := Option.bind_eq_some_iff.mp H
       obtain ⟨t145, A180, H⟩ := H
       replace H : (if t145 = true then ((kind_Shape.f a0 0).bind fun t146 => (if t146 = true then (some false) else ((kind_Shape.f a0 3).bind fun t147 => (if t147 = true then (some false) else ((kind_Shape.f a0 32).bind fun t148 => (some (!t148))))))) else (some false)) = some true := H
       have A18 := Aside0.mk A180
       clear A180
       by_cases c19 : t145 = true
       ·subst c19
        have H1 : ((kind_Shape.f a0 0).bind fun t146 => (if t146 = true then (some false) else ((kind_Shape.f a0 3).bind fun t147 => (if t147 = true then (some false) else ((kind_Shape.f a0 32).bind fun t148 => (some (!t148))))))) = some true := by rw [if_pos rfl] at H; exact H
        clear H
        have H := H1
        clear H1
        replace H := Option.bind_eq_some_iff.mp H
        obtain ⟨t146, A200, H⟩ := H
        replace H : (if t146 = true then (some false) else ((kind_Shape.f a0 3).bind fun t147 => (if t147 = true then (some false) else ((kind_Shape.f a0 32).bind fun t148 => (some (!t148)))))) = some true := H
        have A20 := Aside0.mk A200
        clear A200
        by_cases c21 : t146 = true
        ·subst c21
         have H1 : (some false) = some true := by rw [if_pos rfl] at H; exact H
         clear H
         have H := H1
         clear H1
         exact absurd H (by simp)
        replace c21 := Bool.eq_false_iff.mpr c21
        subst c21
        have H1 : ((kind_Shape.f a0 3).bind fun t147 => (if t147 = true then (some false) else ((kind_Shape.f a0 32).bind fun t148 => (some (!t148))))) = some true := by rw [if_neg (show ¬ (false = true) by decide)] at H; exact H
        clear H
        have H := H1
        clear H1
        replace H := Option.bind_eq_some_iff.mp H
        obtain ⟨t147, A220, H⟩ := H
        replace H : (if t147 = true then (some false) else ((kind_Shape.f a0 32).bind fun t148 => (some (!t148)))) = some true := H
        have A22 := Aside0.mk A220
        clear A220
        by_cases c23 : t147 = true
        ·subst c23
         have H1 : (some false) = some true := by rw [if_pos rfl] at H; exact H
         clear H
         have H := H1
         clear H1
         exact absurd H (by simp)
        replace c23 := Bool.eq_false_iff.mpr c23
        subst c23
        have H1 : ((kind_Shape.f a0 32).bind fun t148 => (some (!t148))) = some true := by rw [if_neg (show ¬ (false = true) by decide)] at H; exact H
        clear H
        have H := H1
        clear H1
        replace H := Option.bind_eq_some_iff.mp H
        obtain ⟨t148, A240, H⟩ := H
        replace H : (some (!t148)) = some true := H
        have A24 := Aside0.mk A240
        clear A240
        have HR_ := Aside0.mk (Option.some.inj H)
        clear H
        go_wp2_with (first | (go_at_call 10; (with_reducible refine (kind_Shape.calls a0 1 true _ A18.out).mono ?_); rintro e w' ⟨rfl, ⟨nd, rfl⟩⟩) | (go_at_call 10; (with_reducible refine (kind_Shape.calls a0 0 false _ A20.out).mono ?_); rintro e w' ⟨rfl, ⟨nd, rfl⟩⟩) | (go_at_call 10; (with_reducible refine (kind_Shape.calls a0 3 false _ A22.out).mono ?_); rintro e w' ⟨rfl, ⟨nd, rfl⟩⟩) | (go_at_call 10; (with_reducible refine (kind_Shape.calls a0 32 t148 _ A24.out).mono ?_); rintro e w' ⟨rfl, ⟨nd, rfl⟩⟩))
        go_ret
        exact ⟨by first | rfl | exact congrArg (fun b => Ending.returned (Value.bool b)) HR_.out | (simp [errW_none, errW_some] <;> rfl) | (simp [*, errW_none, errW_some] <;> rfl), B_⟩
       replace c19 := Bool.eq_false_iff.mpr c19
       subst c19
       have H1 : (some false) = some true := by rw [if_neg (show ¬ (false = true) by decide)] at H; exact H
       clear H
       have H := H1
       clear H1
       exact absurd H (by simp)
      replace c17 := Bool.eq_false_iff.mpr c17
      subst c17
      have H1 : (some true) = some true := rfl
      clear H
      have H := H1
      clear H1
      clear H
      go_wp2
      go_ret
      exact ⟨by first | rfl | exact congrArg (fun b => Ending.returned (Value.bool b)) HR_.out | (simp [errW_none, errW_some] <;> rfl) | (simp [*, errW_none, errW_some] <;> rfl), B_⟩
 replace c4 := Bool.eq_false_iff.mpr c4
 subst c4
 have H1 : (some false) = some true := by rw [if_neg (show ¬ (false = true) by decide)] at H; exact H
 clear H
 have H := H1
 clear H1
 exact absurd H (by simp)

/-- THE ONE PURE STATEMENT of locksteplaw03_KindShapes: yours. -/
def locksteplaw03_KindShapes.Pure : Prop := ∀ (a0 : Int) (a1 : Int), (Lit.int .i64 a0).wf = true → (Lit.int .i64 a1).wf = true → ∃ k, locksteplaw03_KindShapes.f k a0 a1 = some true
theorem locksteplaw03_KindShapes.walk (P : locksteplaw03_KindShapes.Pure) (a0 : Int) (a1 : Int) (w : World) (w0 : (Lit.int .i64 a0).wf = true) (w1 : (Lit.int .i64 a1).wf = true) :
 Calls Try.prog 3 #[.int .i64 a0, .int .i64 a1] w fun e w' => e = .returned (.bool true) ∧ Below w.heap.size w w' := by
 obtain ⟨k, h⟩ := P a0 a1 w0 w1
 refine (locksteplaw03_KindShapes.calls k a0 a1 w h).mono ?_
 rintro e w' ⟨rfl, hd⟩
 exact ⟨rfl, hd⟩

end Go.Proofs.Ytblhphjdjpodcaa.Q
