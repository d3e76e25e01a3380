/- Printed by a program of this session (wip/tools/op.py, over the kit's print program): Go functions as plain Lean functions, each with a proof that the call answers so. Conditions: each theorem's own. -/
import Derived.Test.YtblhphjdjpodcaaQx0
namespace Go.Proofs.Ytblhphjdjpodcaa.Q
open Go.Proofs.YtblhphjdjpodcaaH
open Go.RowKit Go.Proofs.YtblhphjdjpodcaaW.PrintWords Go.Proofs.YtblhphjdjpodcaaW.PrintLast Go.Proofs.YtblhphjdjpodcaaW.PrintMore
attribute [local go_sem] max2_int min2_int max_two min_two max_three min_three max_four min_four   -- for this text's walks alone
set_option linter.unusedVariables false
set_option linter.unusedSimpArgs false

/-! ### kind_Pure: function 19 -/
def kind_Pure.f (a0 : Int) : Option (Bool) := if a0 = 4 then (some false) else (if a0 = 16 then (some false) else (if a0 = 17 then (some false) else (if a0 = 18 then (some false) else (if a0 = 19 then (some false) else (if a0 = 20 then (some false) else (if a0 ≥ 0 then (some (decide (a0 ≤ 22))) else (some false)))))))
set_option maxHeartbeats 8000000 in
set_option maxRecDepth 100000 in
theorem kind_Pure.calls (a0 : Int) (r : Bool) (w : World) (h : kind_Pure.f a0 = some r) :
 Calls Try.prog 19 #[.int .i64 a0] w fun e w' => e = .returned (.bool r) ∧ Drawn0 w w' := by
 have H : (if a0 = 4 then (some false) else (if a0 = 16 then (some false) else (if a0 = 17 then (some false) else (if a0 = 18 then (some false) else (if a0 = 19 then (some false) else (if a0 = 20 then (some false) else (if a0 ≥ 0 then (some (decide (a0 ≤ 22))) else (some false)))))))) = some r := h
 clear h
 by_cases c2 : a0 = 4
 ·rw [if_pos c2] at H
  have c2b0 : (a0 == 4) = true := beq_iff_eq.mpr c2
  have c2b1 : (a0 != 4) = false := bne_eq_false_iff_eq.mpr c2
  clear c2
  obtain rfl := Option.some.inj H
  go_enter Try.func19, Try.ntmps19
  go_wp2
  go_ret
  exact ⟨by first | rfl | (simp; done) | (simp [*]; done), by repeat (first | exact Drawn0.refl _ | apply Drawn0.step)⟩
 rw [if_neg c2] at H
 have c2b0 : (a0 == 4) = false := beq_eq_false_iff_ne.mpr c2
 have c2b1 : (a0 != 4) = true := bne_iff_ne.mpr c2
 by_cases c3 : a0 = 16
 ·rw [if_pos c3] at H
  have c3b0 : (a0 == 16) = true := beq_iff_eq.mpr c3
  have c3b1 : (a0 != 16) = false := bne_eq_false_iff_eq.mpr c3
  clear c3
  obtain rfl := Option.some.inj H
  go_enter Try.func19, Try.ntmps19
  go_wp2
  go_ret
  exact ⟨by first | rfl | (simp; done) | (simp [*]; done), by repeat (first | exact Drawn0.refl _ | apply Drawn0.step)⟩
 rw [if_neg c3] at H
 have c3b0 : (a0 == 16) = false := beq_eq_false_iff_ne.mpr c3
 have c3b1 : (a0 != 16) = true := bne_iff_ne.mpr c3
 by_cases c4 : a0 = 17
 ·rw [if_pos c4] at H
  have c4b0 : (a0 == 17) = true := beq_iff_eq.mpr c4
  have c4b1 : (a0 != 17) = false := bne_eq_false_iff_eq.mpr c4
  clear c4
  obtain rfl := Option.some.inj H
  go_enter Try.func19, Try.ntmps19
  go_wp2
  go_ret
  exact ⟨by first | rfl | (simp; done) | (simp [*]; done), by repeat (first | exact Drawn0.refl _ | apply Drawn0.step)⟩
 rw [if_neg c4] at H
 have c4b0 : (a0 == 17) = false := beq_eq_false_iff_ne.mpr c4
 have c4b1 : (a0 != 17) = true := bne_iff_ne.mpr c4
 by_cases c5 : a0 = 18
 ·rw [if_pos c5] at H
  have c5b0 : (a0 == 18) = true := beq_iff_eq.mpr c5
  have c5b1 : (a0 != 18) = false := bne_eq_false_iff_eq.mpr c5
  clear c5
  obtain rfl := Option.some.inj H
  go_enter Try.func19, Try.ntmps19
  go_wp2
  go_ret
  exact ⟨by first | rfl | (simp; done) | (simp [*]; done), by repeat (first | exact Drawn0.refl _ | apply Drawn0.step)⟩
 rw [if_neg c5] at H
 have c5b0 : (a0 == 18) = false := beq_eq_false_iff_ne.mpr c5
 have c5b1 : (a0 != 18) = true := bne_iff_ne.mpr c5
 by_cases c6 : a0 = 19
 ·rw [if_pos c6] at H
  have c6b0 : (a0 == 19) = true := beq_iff_eq.mpr c6
  have c6b1 : (a0 != 19) = false := bne_eq_false_iff_eq.mpr c6
  clear c6
  obtain rfl := Option.some.inj H
  go_enter Try.func19, Try.ntmps19
  go_wp2
  go_ret
  exact ⟨by first | rfl | (simp; done) | (simp [*]; done), by repeat (first | exact Drawn0.refl _ | apply Drawn0.step)⟩
 rw [if_neg c6] at H
 have c6b0 : (a0 == 19) = false := beq_eq_false_iff_ne.mpr c6
 have c6b1 : (a0 != 19) = true := bne_iff_ne.mpr c6
 by_cases c7 : a0 = 20
 ·rw [if_pos c7] at H
  have c7b0 : (a0 == 20) = true := beq_iff_eq.mpr c7
  have c7b1 : (a0 != 20) = false := bne_eq_false_iff_eq.mpr c7
  clear c7
  obtain rfl := Option.some.inj H
  go_enter Try.func19, Try.ntmps19
  go_wp2
  go_ret
  exact ⟨by first | rfl | (simp; done) | (simp [*]; done), by repeat (first | exact Drawn0.refl _ | apply Drawn0.step)⟩
 rw [if_neg c7] at H
 have c7b0 : (a0 == 20) = false := beq_eq_false_iff_ne.mpr c7
 have c7b1 : (a0 != 20) = true := bne_iff_ne.mpr c7
 by_cases c8 : a0 ≥ 0
 ·rw [if_pos c8] at H
  have c8b0 : decide (0 ≤ a0) = true := decide_eq_true c8
  clear c8
  obtain rfl := Option.some.inj H
  go_enter Try.func19, Try.ntmps19
  go_wp2
  go_ret
  exact ⟨by first | rfl | (simp; done) | (simp [*]; done), by repeat (first | exact Drawn0.refl _ | apply Drawn0.step)⟩
 rw [if_neg c8] at H
 have c8b0 : decide (0 ≤ a0) = false := decide_eq_false c8
 clear c8
 obtain rfl := Option.some.inj H
 go_enter Try.func19, Try.ntmps19
 go_wp2
 go_ret
 exact ⟨by first | rfl | (simp; done) | (simp [*]; done), by repeat (first | exact Drawn0.refl _ | apply Drawn0.step)⟩

end Go.Proofs.Ytblhphjdjpodcaa.Q
