/- Printed by a program of this session (wip/tools/op.py, over the kit's print program): Go functions as plain Lean functions, each with a proof that the call answers so. Conditions: each theorem's own. -/
import Derived.Test.YtblhphjdjpodcaaQx0
namespace Go.Proofs.Ytblhphjdjpodcaa.Q
open Go.Proofs.YtblhphjdjpodcaaH
open Go.RowKit Go.Proofs.YtblhphjdjpodcaaW.PrintWords Go.Proofs.YtblhphjdjpodcaaW.PrintLast Go.Proofs.YtblhphjdjpodcaaW.PrintMore
attribute [local go_sem] max2_int min2_int max_two min_two max_three min_three max_four min_four   -- for this text's walks alone
set_option linter.unusedVariables false
set_option linter.unusedSimpArgs false

/-! ### word_May: function 23 -/
def word_May.f (a0 : Int) : Option (Bool) := if a0 = 1 then (some true) else (if a0 = 8 then (some true) else (if a0 = 16 then (some true) else (if a0 = 32 then (some true) else (if a0 = 64 then (some true) else (some false)))))
set_option maxHeartbeats 8000000 in
set_option maxRecDepth 100000 in
theorem word_May.calls (a0 : Int) (r : Bool) (w : World) (h : word_May.f a0 = some r) :
 Calls Try.prog 23 #[.int .i64 a0] w fun e w' => e = .returned (.bool r) ∧ Drawn0 w w' := by
 have H : (if a0 = 1 then (some true) else (if a0 = 8 then (some true) else (if a0 = 16 then (some true) else (if a0 = 32 then (some true) else (if a0 = 64 then (some true) else (some false)))))) = some r := h
 clear h
 by_cases c2 : a0 = 1
 ·rw [if_pos c2] at H
  have c2b0 : (a0 == 1) = true := beq_iff_eq.mpr c2
  have c2b1 : (a0 != 1) = false := bne_eq_false_iff_eq.mpr c2
  clear c2
  obtain rfl := Option.some.inj H
  go_enter Try.func23, Try.ntmps23
  go_wp2
  go_ret
  exact ⟨by first | rfl | (simp; done) | (simp [*]; done), by repeat (first | exact Drawn0.refl _ | apply Drawn0.step)⟩
 rw [if_neg c2] at H
 have c2b0 : (a0 == 1) = false := beq_eq_false_iff_ne.mpr c2
 have c2b1 : (a0 != 1) = true := bne_iff_ne.mpr c2
 by_cases c3 : a0 = 8
 ·rw [if_pos c3] at H
  have c3b0 : (a0 == 8) = true := beq_iff_eq.mpr c3
  have c3b1 : (a0 != 8) = false := bne_eq_false_iff_eq.mpr c3
  clear c3
  obtain rfl := Option.some.inj H
  go_enter Try.func23, Try.ntmps23
  go_wp2
  go_ret
  exact ⟨by first | rfl | (simp; done) | (simp [*]; done), by repeat (first | exact Drawn0.refl _ | apply Drawn0.step)⟩
 rw [if_neg c3] at H
 have c3b0 : (a0 == 8) = false := beq_eq_false_iff_ne.mpr c3
 have c3b1 : (a0 != 8) = true := bne_iff_ne.mpr c3
 by_cases c4 : a0 = 16
 ·rw [if_pos c4] at H
  have c4b0 : (a0 == 16) = true := beq_iff_eq.mpr c4
  have c4b1 : (a0 != 16) = false := bne_eq_false_iff_eq.mpr c4
  clear c4
  obtain rfl := Option.some.inj H
  go_enter Try.func23, Try.ntmps23
  go_wp2
  go_ret
  exact ⟨by first | rfl | (simp; done) | (simp [*]; done), by repeat (first | exact Drawn0.refl _ | apply Drawn0.step)⟩
 rw [if_neg c4] at H
 have c4b0 : (a0 == 16) = false := beq_eq_false_iff_ne.mpr c4
 have c4b1 : (a0 != 16) = true := bne_iff_ne.mpr c4
 by_cases c5 : a0 = 32
 ·rw [if_pos c5] at H
  have c5b0 : (a0 == 32) = true := beq_iff_eq.mpr c5
  have c5b1 : (a0 != 32) = false := bne_eq_false_iff_eq.mpr c5
  clear c5
  obtain rfl := Option.some.inj H
  go_enter Try.func23, Try.ntmps23
  go_wp2
  go_ret
  exact ⟨by first | rfl | (simp; done) | (simp [*]; done), by repeat (first | exact Drawn0.refl _ | apply Drawn0.step)⟩
 rw [if_neg c5] at H
 have c5b0 : (a0 == 32) = false := beq_eq_false_iff_ne.mpr c5
 have c5b1 : (a0 != 32) = true := bne_iff_ne.mpr c5
 by_cases c6 : a0 = 64
 ·rw [if_pos c6] at H
  have c6b0 : (a0 == 64) = true := beq_iff_eq.mpr c6
  have c6b1 : (a0 != 64) = false := bne_eq_false_iff_eq.mpr c6
  clear c6
  obtain rfl := Option.some.inj H
  go_enter Try.func23, Try.ntmps23
  go_wp2
  go_ret
  exact ⟨by first | rfl | (simp; done) | (simp [*]; done), by repeat (first | exact Drawn0.refl _ | apply Drawn0.step)⟩
 rw [if_neg c6] at H
 have c6b0 : (a0 == 64) = false := beq_eq_false_iff_ne.mpr c6
 have c6b1 : (a0 != 64) = true := bne_iff_ne.mpr c6
 obtain rfl := Option.some.inj H
 go_enter Try.func23, Try.ntmps23
 go_wp2
 go_ret
 exact ⟨by first | rfl | (simp; done) | (simp [*]; done), by repeat (first | exact Drawn0.refl _ | apply Drawn0.step)⟩

end Go.Proofs.Ytblhphjdjpodcaa.Q
