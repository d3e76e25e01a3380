/- Printed by a program of this session (wip/tools/op.py, over the kit's print program): Go functions as plain Lean functions, each with a proof that the call answers so. Conditions: each theorem's own. -/
import Derived.Test.YtheillkpgmpnlaaGx0
import Derived.Test.YtheillkpgmpnlaaGx6
namespace Go.Proofs.Ytheillkpgmpnlaa.G
open Go.Proofs.YtheillkpgmpnlaaH
open Go.RowKit Go.Proofs.YtheillkpgmpnlaaW.PrintWords Go.Proofs.YtheillkpgmpnlaaW.PrintLast Go.Proofs.YtheillkpgmpnlaaW.PrintMore
attribute [local go_sem] max2_int min2_int max_two min_two max_three min_three max_four min_four   -- for this text's walks alone
set_option linter.unusedVariables false
set_option linter.unusedSimpArgs false

/-! ### slices_EqualFunc_int_int_int_int_slices_Equal_int_int: function 61 -/
def slices_EqualFunc_int_int_int_int_slices_Equal_int_int.l0 : Nat → List (List Int) → List (List Int) → Int → Int → Option (Bool)
 | 0, _, _, _, _ => none
 | k + 1, x1, x15, x16, x17 => if x17 < x16 then (if 0 ≤ x17 then (if x17 < (x15.length : Int) then (if x17 < (x1.length : Int) then ((slices_Equal_int_int.f k (rd_L1 x15 x17) (rd_L1 x1 x17)).bind fun t155 => (if t155 = true then (slices_EqualFunc_int_int_int_int_slices_Equal_int_int.l0 k x1 x15 x16 (wrap64 (x17 + 1))) else (some false))) else (none)) else (none)) else (none)) else (some true)
def slices_EqualFunc_int_int_int_int_slices_Equal_int_int.f (k : Nat) (l0 : List (List Int)) (l1 : List (List Int))  : Option (Bool) := if (l0.length : Int) = (l1.length : Int) then (slices_EqualFunc_int_int_int_int_slices_Equal_int_int.l0 k l1 l0 (l0.length : Int) 0) else (some false)
theorem slices_EqualFunc_int_int_int_int_slices_Equal_int_int.mono_l : ∀ k, (∀ y0 y1 y2 y3, LeO (slices_EqualFunc_int_int_int_int_slices_Equal_int_int.l0 k y0 y1 y2 y3) (slices_EqualFunc_int_int_int_int_slices_Equal_int_int.l0 (k + 1) y0 y1 y2 y3))
 | 0 => fun _ _ _ _ r h => by simp [slices_EqualFunc_int_int_int_int_slices_Equal_int_int.l0] at h
 | k + 1 => by
  have ih0 := slices_EqualFunc_int_int_int_int_slices_Equal_int_int.mono_l k
  ·intro y0 y1 y2 y3
   unfold slices_EqualFunc_int_int_int_int_slices_Equal_int_int.l0
   repeat' (with_reducible first | exact ih0 _ _ _ _ | exact slices_Equal_int_int.mono _ _ _ | exact LeO.refl _ | exact LeO.none _ | refine LeO.ite ?_ ?_ | refine LeO.bind ?_ (fun _ => ?_))
theorem slices_EqualFunc_int_int_int_int_slices_Equal_int_int.mono : ∀ a0 a1 k, LeO (slices_EqualFunc_int_int_int_int_slices_Equal_int_int.f k a0 a1) (slices_EqualFunc_int_int_int_int_slices_Equal_int_int.f (k + 1) a0 a1) := by
 intro a0 a1 k
 have ih0 := slices_EqualFunc_int_int_int_int_slices_Equal_int_int.mono_l k
 unfold slices_EqualFunc_int_int_int_int_slices_Equal_int_int.f
 repeat' (with_reducible first | exact ih0 _ _ _ _ | exact slices_Equal_int_int.mono _ _ _ | exact LeO.refl _ | exact LeO.none _ | refine LeO.ite ?_ ?_ | refine LeO.bind ?_ (fun _ => ?_))
set_option maxHeartbeats 8000000 in
set_option maxRecDepth 100000 in
theorem slices_EqualFunc_int_int_int_int_slices_Equal_int_int.calls (k : Nat) (A0 : Option Addr) (c0 : Nat) (l0 : List (List Int)) (A1 : Option Addr) (c1 : Nat) (l1 : List (List Int))  (r : Bool) (w : World) (hr0 : Kd.C (Kd.slice 3 (Kd.int .i64)) w A0 l0.length l0) (hc0 : l0.length ≤ c0) (hr1 : Kd.C (Kd.slice 3 (Kd.int .i64)) w A1 l1.length l1) (hc1 : l1.length ≤ c1) (h : slices_EqualFunc_int_int_int_int_slices_Equal_int_int.f k l0 l1 = some r) :
 Calls Try.prog 61 #[.slice A0 l0.length c0, .slice A1 l1.length c1, .func (.func 62) #[] #[]] w fun e w' => e = .returned (.bool r) ∧ Drawn0 w w' := by
 have HR0 := Aside0.mk hr0
 have HC0 := Aside0.mk hc0
 clear hr0 hc0
 have HR1 := Aside0.mk hr1
 have HC1 := Aside0.mk hc1
 clear hr1 hc1
 have H : (if (l0.length : Int) = (l1.length : Int) then (slices_EqualFunc_int_int_int_int_slices_Equal_int_int.l0 k l1 l0 (l0.length : Int) 0) else (some false)) = some r := h
 clear h
 by_cases c4 : (l0.length : Int) = (l1.length : Int)
 ·rw [if_pos c4] at H
  have c4b0 : ((l0.length : Int) == (l1.length : Int)) = true := beq_iff_eq.mpr c4
  have c4b1 : ((l0.length : Int) != (l1.length : Int)) = false := bne_eq_false_iff_eq.mpr c4
  have c4b2 : (l0.length == l1.length) = true := by first | simpa using c4 | (simp at c4 ⊢; omega)
  clear c4
  have H' := Aside0.mk H
  clear H
  go_enter Try.func61, Try.ntmps61
  go_wp2
  go_loopg [17] k (fun kq v17 w' => ∃ (x17_1 : Int), v17 = .int .i64 x17_1 ∧ Aside0 (slices_EqualFunc_int_int_int_int_slices_Equal_int_int.l0 kq l1 l0 (l0.length : Int) x17_1 = some r) ∧ Aside0 (kq ≤ k) ∧ Drawn0 w w')
  case atStart => exact ⟨(0), (by first | rfl | (simp; done) | (simp [*]; done)), H', ⟨Nat.le_refl _⟩, by repeat (first | exact Drawn0.refl _ | apply Drawn0.step)⟩
  case round =>
   clear H'
   try clear c1
   try clear c4b0
   try clear c4b1
   try clear c4b2
   obtain ⟨x17_1, rfl, HA, HK1, ⟨m1, rfl⟩⟩ := hrel
   cases gk with
   | zero => exact absurd HA.out (by simp [slices_EqualFunc_int_int_int_int_slices_Equal_int_int.l0])
   | succ k1 =>
    have H := HA.out
    clear HA
    simp only [slices_EqualFunc_int_int_int_int_slices_Equal_int_int.l0] at H
    by_cases c5 : x17_1 < (l0.length : Int)
    ·rw [if_pos c5] at H
     have c5b0 : decide (x17_1 < (l0.length : Int)) = true := decide_eq_true c5
     clear c5
     by_cases c6 : 0 ≤ x17_1
     ·rw [if_pos c6] at H
      have c6b0 : decide (0 ≤ x17_1) = true := decide_eq_true c6
      clear c6
      by_cases c7 : x17_1 < (l0.length : Int)
      ·rw [if_pos c7] at H
       have c7b0 : decide (x17_1 < (l0.length : Int)) = true := decide_eq_true c7
       clear c7
       by_cases c8 : x17_1 < (l1.length : Int)
       ·rw [if_pos c8] at H
        have c8b0 : decide (x17_1 < (l1.length : Int)) = true := decide_eq_true c8
        clear c8
        replace H := Option.bind_eq_some_iff.mp H
        obtain ⟨t155, A90, H⟩ := H
        try dsimp only at H
        have A9 := Aside0.mk A90
        clear A90
        by_cases c10 : t155 = true
        ·subst c10
         have H1 : (slices_EqualFunc_int_int_int_int_slices_Equal_int_int.l0 k1 l1 l0 (l0.length : Int) (wrap64 (x17_1 + 1))) = some r := by rw [if_pos rfl] at H; exact H
         clear H
         have H := H1
         clear H1
         have H' := Aside0.mk H
         clear H
         have p153 : 0 ≤ (x17_1 : Int) := D_
         have q153 : x17_1 < (l0.length : Int) := D_
         obtain ⟨ad153, A153_0, c153_0, e153, hx153_0, hl153_0, hi153_0⟩ := at_L1 HR0.out x17_1 p153 q153
         cases e153
         have HR153_0 := Aside0.mk hi153_0
         have HC153_0 := Aside0.mk hl153_0
         clear hi153_0 hl153_0
         replace p153 := eq_true p153
         replace q153 := eq_true q153
         have p154 : 0 ≤ (x17_1 : Int) := D_
         have q154 : x17_1 < (l1.length : Int) := D_
         obtain ⟨ad154, A154_0, c154_0, e154, hx154_0, hl154_0, hi154_0⟩ := at_L1 HR1.out x17_1 p154 q154
         cases e154
         have HR154_0 := Aside0.mk hi154_0
         have HC154_0 := Aside0.mk hl154_0
         clear hi154_0 hl154_0
         replace p154 := eq_true p154
         replace q154 := eq_true q154
         go_wp2_with (first | (go_at_call 62; (with_reducible refine (slices_Equal_int_int.calls k1 _ _ (rd_L1 l0 x17_1) _ _ (rd_L1 l1 x17_1) true _ ?side1 ?side2 ?side3 ?side4 A9.out).mono ?_); (case side1 => exact CX_ HR153_0.out); (case side2 => exact HC153_0.out); (case side3 => exact CX_ HR154_0.out); (case side4 => exact HC154_0.out); rintro e w' ⟨rfl, ⟨nd, rfl⟩⟩))
         go_roundg k1
         case measure => have := HK1.out; omega
         case rel => exact ⟨(wrap64 (x17_1 + 1)), (by first | rfl | (simp; done) | (simp [*]; done)), H', ⟨by have := HK1.out; omega⟩, by repeat (first | exact Drawn0.refl _ | apply Drawn0.step)⟩
        replace c10 := Bool.eq_false_iff.mpr c10
        subst c10
        have H1 : (some false) = some r := by rw [if_neg (show ¬ (false = true) by decide)] at H; exact H
        clear H
        have H := H1
        clear H1
        obtain rfl := Option.some.inj H
        have p153 : 0 ≤ (x17_1 : Int) := D_
        have q153 : x17_1 < (l0.length : Int) := D_
        obtain ⟨ad153, A153_0, c153_0, e153, hx153_0, hl153_0, hi153_0⟩ := at_L1 HR0.out x17_1 p153 q153
        cases e153
        have HR153_0 := Aside0.mk hi153_0
        have HC153_0 := Aside0.mk hl153_0
        clear hi153_0 hl153_0
        replace p153 := eq_true p153
        replace q153 := eq_true q153
        have p154 : 0 ≤ (x17_1 : Int) := D_
        have q154 : x17_1 < (l1.length : Int) := D_
        obtain ⟨ad154, A154_0, c154_0, e154, hx154_0, hl154_0, hi154_0⟩ := at_L1 HR1.out x17_1 p154 q154
        cases e154
        have HR154_0 := Aside0.mk hi154_0
        have HC154_0 := Aside0.mk hl154_0
        clear hi154_0 hl154_0
        replace p154 := eq_true p154
        replace q154 := eq_true q154
        go_wp2_with (first | (go_at_call 62; (with_reducible refine (slices_Equal_int_int.calls k1 _ _ (rd_L1 l0 x17_1) _ _ (rd_L1 l1 x17_1) false _ ?side1 ?side2 ?side3 ?side4 A9.out).mono ?_); (case side1 => exact CX_ HR153_0.out); (case side2 => exact HC153_0.out); (case side3 => exact CX_ HR154_0.out); (case side4 => exact HC154_0.out); rintro e w' ⟨rfl, ⟨nd, rfl⟩⟩))
        go_ret
        exact ⟨by first | rfl | (simp; done) | (simp [*]; done), by repeat (first | exact Drawn0.refl _ | apply Drawn0.step)⟩
       rw [if_neg c8] at H
       exact absurd H (by simp)
      rw [if_neg c7] at H
      exact absurd H (by simp)
     rw [if_neg c6] at H
     exact absurd H (by simp)
    rw [if_neg c5] at H
    have c5b0 : decide (x17_1 < (l0.length : Int)) = false := decide_eq_false c5
    clear c5
    obtain rfl := Option.some.inj H
    go_wp2
    go_ret
    exact ⟨by first | rfl | (simp; done) | (simp [*]; done), by repeat (first | exact Drawn0.refl _ | apply Drawn0.step)⟩
 rw [if_neg c4] at H
 have c4b0 : ((l0.length : Int) == (l1.length : Int)) = false := beq_eq_false_iff_ne.mpr c4
 have c4b1 : ((l0.length : Int) != (l1.length : Int)) = true := bne_iff_ne.mpr c4
 have c4b2 : (l0.length == l1.length) = false := by first | simpa using c4 | (simp at c4 ⊢; omega)
 obtain rfl := Option.some.inj H
 go_enter Try.func61, Try.ntmps61
 go_wp2
 go_ret
 exact ⟨by first | rfl | (simp; done) | (simp [*]; done), by repeat (first | exact Drawn0.refl _ | apply Drawn0.step)⟩

end Go.Proofs.Ytheillkpgmpnlaa.G
