/- Printed by a program of this session (wip/tools/op.py, over the kit's print program): Go functions as plain Lean functions, each with a proof that the call answers so. Conditions: each theorem's own. -/
import Derived.Test.YtblhphjdjpodcaaQx0
import Derived.Test.YtblhphjdjpodcaaQx2
namespace Go.Proofs.Ytblhphjdjpodcaa.Q
open Go.Proofs.YtblhphjdjpodcaaH
open Go.RowKit Go.Proofs.YtblhphjdjpodcaaW.PrintWords Go.Proofs.YtblhphjdjpodcaaW.PrintLast Go.Proofs.YtblhphjdjpodcaaW.PrintMore
attribute [local go_sem] max2_int min2_int max_two min_two max_three min_three max_four min_four   -- for this text's walks alone
set_option linter.unusedVariables false
set_option linter.unusedSimpArgs false

/-! ### kind_Shape: function 10 -/
def kind_Shape.f (a0 : Int) (a1 : Int) : Option (Bool) := (word_May.f a0).bind fun t101 => (if t101 = true then (if a1 = 1 then (some true) else (if a1 = 2 then (if a0 ≥ 8 then (some (decide ((wrap64 (a0 * a1)) ≤ 128))) else (some false)) else (if a1 = 4 then (if a0 ≥ 8 then (some (decide ((wrap64 (a0 * a1)) ≤ 128))) else (some false)) else (if a1 = 8 then (if a0 ≥ 8 then (some (decide ((wrap64 (a0 * a1)) ≤ 128))) else (some false)) else (if a1 = 16 then (if a0 ≥ 8 then (some (decide ((wrap64 (a0 * a1)) ≤ 128))) else (some false)) else (some false)))))) else (some false))
set_option maxHeartbeats 8000000 in
set_option maxRecDepth 100000 in
theorem kind_Shape.calls (a0 : Int) (a1 : Int) (r : Bool) (w : World) (h : kind_Shape.f a0 a1 = some r) :
 Calls Try.prog 10 #[.int .i64 a0, .int .i64 a1] w fun e w' => e = .returned (.bool r) ∧ Drawn0 w w' := by
 have H : ((word_May.f a0).bind fun t101 => (if t101 = true then (if a1 = 1 then (some true) else (if a1 = 2 then (if a0 ≥ 8 then (some (decide ((wrap64 (a0 * a1)) ≤ 128))) else (some false)) else (if a1 = 4 then (if a0 ≥ 8 then (some (decide ((wrap64 (a0 * a1)) ≤ 128))) else (some false)) else (if a1 = 8 then (if a0 ≥ 8 then (some (decide ((wrap64 (a0 * a1)) ≤ 128))) else (some false)) else (if a1 = 16 then (if a0 ≥ 8 then (some (decide ((wrap64 (a0 * a1)) ≤ 128))) else (some false)) else (some false)))))) else (some false))) = some r := h
 clear h
 replace H := Option.bind_eq_some_iff.mp H
 obtain ⟨t101, A30, H⟩ := H
 replace H : (if t101 = true then (if a1 = 1 then (some true) else (if a1 = 2 then (if a0 ≥ 8 then (some (decide ((wrap64 (a0 * a1)) ≤ 128))) else (some false)) else (if a1 = 4 then (if a0 ≥ 8 then (some (decide ((wrap64 (a0 * a1)) ≤ 128))) else (some false)) else (if a1 = 8 then (if a0 ≥ 8 then (some (decide ((wrap64 (a0 * a1)) ≤ 128))) else (some false)) else (if a1 = 16 then (if a0 ≥ 8 then (some (decide ((wrap64 (a0 * a1)) ≤ 128))) else (some false)) else (some false)))))) else (some false)) = some r := H
 have A3 := Aside0.mk A30
 clear A30
 by_cases c4 : t101 = true
 ·subst c4
  have H1 : (if a1 = 1 then (some true) else (if a1 = 2 then (if a0 ≥ 8 then (some (decide ((wrap64 (a0 * a1)) ≤ 128))) else (some false)) else (if a1 = 4 then (if a0 ≥ 8 then (some (decide ((wrap64 (a0 * a1)) ≤ 128))) else (some false)) else (if a1 = 8 then (if a0 ≥ 8 then (some (decide ((wrap64 (a0 * a1)) ≤ 128))) else (some false)) else (if a1 = 16 then (if a0 ≥ 8 then (some (decide ((wrap64 (a0 * a1)) ≤ 128))) else (some false)) else (some false)))))) = some r := by rw [if_pos rfl] at H; exact H
  clear H
  have H := H1
  clear H1
  by_cases c5 : a1 = 1
  ·rw [if_pos c5] at H
   have c5b0 : (a1 == 1) = true := beq_iff_eq.mpr c5
   have c5b1 : (a1 != 1) = false := bne_eq_false_iff_eq.mpr c5
   clear c5
   obtain rfl := Option.some.inj H
   go_enter Try.func10, Try.ntmps10
   go_wp2_with (first | ((with_reducible refine gate_callee (f := 23) rfl ?_); refine goesL_ (some 6) rfl rfl Try.func23 (by kernel_rfl) rfl #[.int .i64 a0] rfl (by (try simp only [List.map_toArray, List.map_cons, List.map_nil]); first | done | rfl | (simp only [List.length_drop, List.length_take]; rfl)) ?_; (with_reducible refine (word_May.calls a0 true _ A3.out).mono ?_); rintro e w' ⟨rfl, ⟨nd, rfl⟩⟩; refine ⟨_, rfl, ?_⟩))
   go_ret
   exact ⟨by first | rfl | (simp; done) | (simp [*]; done), by repeat (first | exact Drawn0.refl _ | apply Drawn0.step)⟩
  rw [if_neg c5] at H
  have c5b0 : (a1 == 1) = false := beq_eq_false_iff_ne.mpr c5
  have c5b1 : (a1 != 1) = true := bne_iff_ne.mpr c5
  by_cases c6 : a1 = 2
  ·rw [if_pos c6] at H
   have c6b0 : (a1 == 2) = true := beq_iff_eq.mpr c6
   have c6b1 : (a1 != 2) = false := bne_eq_false_iff_eq.mpr c6
   clear c6
   by_cases c7 : a0 ≥ 8
   ·rw [if_pos c7] at H
    have c7b0 : decide (8 ≤ a0) = true := decide_eq_true c7
    clear c7
    obtain rfl := Option.some.inj H
    go_enter Try.func10, Try.ntmps10
    go_wp2_with (first | ((with_reducible refine gate_callee (f := 23) rfl ?_); refine goesL_ (some 6) rfl rfl Try.func23 (by kernel_rfl) rfl #[.int .i64 a0] rfl (by (try simp only [List.map_toArray, List.map_cons, List.map_nil]); first | done | rfl | (simp only [List.length_drop, List.length_take]; rfl)) ?_; (with_reducible refine (word_May.calls a0 true _ A3.out).mono ?_); rintro e w' ⟨rfl, ⟨nd, rfl⟩⟩; refine ⟨_, rfl, ?_⟩))
    go_ret
    exact ⟨by first | rfl | (simp; done) | (simp [*]; done), by repeat (first | exact Drawn0.refl _ | apply Drawn0.step)⟩
   rw [if_neg c7] at H
   have c7b0 : decide (8 ≤ a0) = false := decide_eq_false c7
   clear c7
   obtain rfl := Option.some.inj H
   go_enter Try.func10, Try.ntmps10
   go_wp2_with (first | ((with_reducible refine gate_callee (f := 23) rfl ?_); refine goesL_ (some 6) rfl rfl Try.func23 (by kernel_rfl) rfl #[.int .i64 a0] rfl (by (try simp only [List.map_toArray, List.map_cons, List.map_nil]); first | done | rfl | (simp only [List.length_drop, List.length_take]; rfl)) ?_; (with_reducible refine (word_May.calls a0 true _ A3.out).mono ?_); rintro e w' ⟨rfl, ⟨nd, rfl⟩⟩; refine ⟨_, rfl, ?_⟩))
   go_ret
   exact ⟨by first | rfl | (simp; done) | (simp [*]; done), by repeat (first | exact Drawn0.refl _ | apply Drawn0.step)⟩
  rw [if_neg c6] at H
  have c6b0 : (a1 == 2) = false := beq_eq_false_iff_ne.mpr c6
  have c6b1 : (a1 != 2) = true := bne_iff_ne.mpr c6
  by_cases c8 : a1 = 4
  ·rw [if_pos c8] at H
   have c8b0 : (a1 == 4) = true := beq_iff_eq.mpr c8
   have c8b1 : (a1 != 4) = false := bne_eq_false_iff_eq.mpr c8
   clear c8
   by_cases c9 : a0 ≥ 8
   ·rw [if_pos c9] at H
    have c9b0 : decide (8 ≤ a0) = true := decide_eq_true c9
    clear c9
    obtain rfl := Option.some.inj H
    go_enter Try.func10, Try.ntmps10
    go_wp2_with (first | ((with_reducible refine gate_callee (f := 23) rfl ?_); refine goesL_ (some 6) rfl rfl Try.func23 (by kernel_rfl) rfl #[.int .i64 a0] rfl (by (try simp only [List.map_toArray, List.map_cons, List.map_nil]); first | done | rfl | (simp only [List.length_drop, List.length_take]; rfl)) ?_; (with_reducible refine (word_May.calls a0 true _ A3.out).mono ?_); rintro e w' ⟨rfl, ⟨nd, rfl⟩⟩; refine ⟨_, rfl, ?_⟩))
    go_ret
    exact ⟨by first | rfl | (simp; done) | (simp [*]; done), by repeat (first | exact Drawn0.refl _ | apply Drawn0.step)⟩
   rw [if_neg c9] at H
   have c9b0 : decide (8 ≤ a0) = false := decide_eq_false c9
   clear c9
   obtain rfl := Option.some.inj H
   go_enter Try.func10, Try.ntmps10
   go_wp2_with (first | ((with_reducible refine gate_callee (f := 23) rfl ?_); refine goesL_ (some 6) rfl rfl Try.func23 (by kernel_rfl) rfl #[.int .i64 a0] rfl (by (try simp only [List.map_toArray, List.map_cons, List.map_nil]); first | done | rfl | (simp only [List.length_drop, List.length_take]; rfl)) ?_; (with_reducible refine (word_May.calls a0 true _ A3.out).mono ?_); rintro e w' ⟨rfl, ⟨nd, rfl⟩⟩; refine ⟨_, rfl, ?_⟩))
   go_ret
   exact ⟨by first | rfl | (simp; done) | (simp [*]; done), by repeat (first | exact Drawn0.refl _ | apply Drawn0.step)⟩
  rw [if_neg c8] at H
  have c8b0 : (a1 == 4) = false := beq_eq_false_iff_ne.mpr c8
  have c8b1 : (a1 != 4) = true := bne_iff_ne.mpr c8
  by_cases c10 : a1 = 8
  ·rw [if_pos c10] at H
   have c10b0 : (a1 == 8) = true := beq_iff_eq.mpr c10
   have c10b1 : (a1 != 8) = false := bne_eq_false_iff_eq.mpr c10
   clear c10
   by_cases c11 : a0 ≥ 8
   ·rw [if_pos c11] at H
    have c11b0 : decide (8 ≤ a0) = true := decide_eq_true c11
    clear c11
    obtain rfl := Option.some.inj H
    go_enter Try.func10, Try.ntmps10
    go_wp2_with (first | ((with_reducible refine gate_callee (f := 23) rfl ?_); refine goesL_ (some 6) rfl rfl Try.func23 (by kernel_rfl) rfl #[.int .i64 a0] rfl (by (try simp only [List.map_toArray, List.map_cons, List.map_nil]); first | done | rfl | (simp only [List.length_drop, List.length_take]; rfl)) ?_; (with_reducible refine (word_May.calls a0 true _ A3.out).mono ?_); rintro e w' ⟨rfl, ⟨nd, rfl⟩⟩; refine ⟨_, rfl, ?_⟩))
    go_ret
    exact ⟨by first | rfl | (simp; done) | (simp [*]; done), by repeat (first | exact Drawn0.refl _ | apply Drawn0.step)⟩
   rw [if_neg c11] at H
   have c11b0 : decide (8 ≤ a0) = false := decide_eq_false c11
   clear c11
   obtain rfl := Option.some.inj H
   go_enter Try.func10, Try.ntmps10
   go_wp2_with (first | ((with_reducible refine gate_callee (f := 23) rfl ?_); refine goesL_ (some 6) rfl rfl Try.func23 (by kernel_rfl) rfl #[.int .i64 a0] rfl (by (try simp only [List.map_toArray, List.map_cons, List.map_nil]); first | done | rfl | (simp only [List.length_drop, List.length_take]; rfl)) ?_; (with_reducible refine (word_May.calls a0 true _ A3.out).mono ?_); rintro e w' ⟨rfl, ⟨nd, rfl⟩⟩; refine ⟨_, rfl, ?_⟩))
   go_ret
   exact ⟨by first | rfl | (simp; done) | (simp [*]; done), by repeat (first | exact Drawn0.refl _ | apply Drawn0.step)⟩
  rw [if_neg c10] at H
  have c10b0 : (a1 == 8) = false := beq_eq_false_iff_ne.mpr c10
  have c10b1 : (a1 != 8) = true := bne_iff_ne.mpr c10
  by_cases c12 : a1 = 16
  ·rw [if_pos c12] at H
   have c12b0 : (a1 == 16) = true := beq_iff_eq.mpr c12
   have c12b1 : (a1 != 16) = false := bne_eq_false_iff_eq.mpr c12
   clear c12
   by_cases c13 : a0 ≥ 8
   ·rw [if_pos c13] at H
    have c13b0 : decide (8 ≤ a0) = true := decide_eq_true c13
    clear c13
    obtain rfl := Option.some.inj H
    go_enter Try.func10, Try.ntmps10
    go_wp2_with (first | ((with_reducible refine gate_callee (f := 23) rfl ?_); refine goesL_ (some 6) rfl rfl Try.func23 (by kernel_rfl) rfl #[.int .i64 a0] rfl (by (try simp only [List.map_toArray, List.map_cons, List.map_nil]); first | done | rfl | (simp only [List.length_drop, List.length_take]; rfl)) ?_; (with_reducible refine (word_May.calls a0 true _ A3.out).mono ?_); rintro e w' ⟨rfl, ⟨nd, rfl⟩⟩; refine ⟨_, rfl, ?_⟩))
    go_ret
    exact ⟨by first | rfl | (simp; done) | (simp [*]; done), by repeat (first | exact Drawn0.refl _ | apply Drawn0.step)⟩
   rw [if_neg c13] at H
   have c13b0 : decide (8 ≤ a0) = false := decide_eq_false c13
   clear c13
   obtain rfl := Option.some.inj H
   go_enter Try.func10, Try.ntmps10
   go_wp2_with (first | ((with_reducible refine gate_callee (f := 23) rfl ?_); refine goesL_ (some 6) rfl rfl Try.func23 (by kernel_rfl) rfl #[.int .i64 a0] rfl (by (try simp only [List.map_toArray, List.map_cons, List.map_nil]); first | done | rfl | (simp only [List.length_drop, List.length_take]; rfl)) ?_; (with_reducible refine (word_May.calls a0 true _ A3.out).mono ?_); rintro e w' ⟨rfl, ⟨nd, rfl⟩⟩; refine ⟨_, rfl, ?_⟩))
   go_ret
   exact ⟨by first | rfl | (simp; done) | (simp [*]; done), by repeat (first | exact Drawn0.refl _ | apply Drawn0.step)⟩
  rw [if_neg c12] at H
  have c12b0 : (a1 == 16) = false := beq_eq_false_iff_ne.mpr c12
  have c12b1 : (a1 != 16) = true := bne_iff_ne.mpr c12
  obtain rfl := Option.some.inj H
  go_enter Try.func10, Try.ntmps10
  go_wp2_with (first | ((with_reducible refine gate_callee (f := 23) rfl ?_); refine goesL_ (some 6) rfl rfl Try.func23 (by kernel_rfl) rfl #[.int .i64 a0] rfl (by (try simp only [List.map_toArray, List.map_cons, List.map_nil]); first | done | rfl | (simp only [List.length_drop, List.length_take]; rfl)) ?_; (with_reducible refine (word_May.calls a0 true _ A3.out).mono ?_); rintro e w' ⟨rfl, ⟨nd, rfl⟩⟩; refine ⟨_, rfl, ?_⟩))
  go_ret
  exact ⟨by first | rfl | (simp; done) | (simp [*]; done), by repeat (first | exact Drawn0.refl _ | apply Drawn0.step)⟩
 replace c4 := Bool.eq_false_iff.mpr c4
 subst c4
 have H1 : (some false) = some r := by rw [if_neg (show ¬ (false = true) by decide)] at H; exact H
 clear H
 have H := H1
 clear H1
 obtain rfl := Option.some.inj H
 go_enter Try.func10, Try.ntmps10
 go_wp2_with (first | ((with_reducible refine gate_callee (f := 23) rfl ?_); refine goesL_ (some 6) rfl rfl Try.func23 (by kernel_rfl) rfl #[.int .i64 a0] rfl (by (try simp only [List.map_toArray, List.map_cons, List.map_nil]); first | done | rfl | (simp only [List.length_drop, List.length_take]; rfl)) ?_; (with_reducible refine (word_May.calls a0 false _ A3.out).mono ?_); rintro e w' ⟨rfl, ⟨nd, rfl⟩⟩; refine ⟨_, rfl, ?_⟩))
 go_ret
 exact ⟨by first | rfl | (simp; done) | (simp [*]; done), by repeat (first | exact Drawn0.refl _ | apply Drawn0.step)⟩

end Go.Proofs.Ytblhphjdjpodcaa.Q
