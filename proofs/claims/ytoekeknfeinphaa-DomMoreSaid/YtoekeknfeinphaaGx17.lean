/- Printed by a program of this session (wip/tools/op.py, over the kit's print program): Go functions as plain Lean functions, each with a proof that the call answers so. Conditions: each theorem's own. -/
import Derived.Test.YtoekeknfeinphaaGx0
import Derived.Test.YtoekeknfeinphaaGx16
namespace Go.Proofs.Ytoekeknfeinphaa.G
open Go.Proofs.YtoekeknfeinphaaH
open Go.RowKit Go.Proofs.YtoekeknfeinphaaW.PrintWords Go.Proofs.YtoekeknfeinphaaW.PrintLast Go.Proofs.YtoekeknfeinphaaW.PrintMore
attribute [local go_sem] max2_int min2_int max_two min_two max_three min_three max_four min_four   -- for this text's walks alone
set_option linter.unusedVariables false
set_option linter.unusedSimpArgs false

/-! ### dom_right: function 50 -/
def dom_right.l0 : Nat → List Int → Int → List Int → Int → Int → Option (Bool)
 | 0, _, _, _, _, _ => none
 | k + 1, x0, x3, x6, x7, x8 => if x8 < x7 then (if 0 ≤ x8 then (if x8 < (x6.length : Int) then (if (rd x6 x8) = (-1) then (if (rd x6 x8) = (-2) then (dom_right.l0 k x0 (wrap64 (x3 + 1)) x6 x7 (wrap64 (x8 + 1))) else ((dom_depth.f k x0 x8).bind fun t244 => (if t244 < 0 then (some false) else (dom_right.l0 k x0 (wrap64 (x3 + 1)) x6 x7 (wrap64 (x8 + 1)))))) else (if (rd x6 x8) = (-2) then (dom_right.l0 k x0 x3 x6 x7 (wrap64 (x8 + 1))) else ((dom_depth.f k x0 x8).bind fun t245 => (if t245 < 0 then (some false) else (dom_right.l0 k x0 x3 x6 x7 (wrap64 (x8 + 1))))))) else (none)) else (none)) else (some (x3 == 1))
def dom_right.f (k : Nat) (l0 : List Int) : Option (Bool) := dom_right.l0 k l0 0 l0 (l0.length : Int) 0
theorem dom_right.mono_l : ∀ k, (∀ y0 y1 y2 y3 y4, LeO (dom_right.l0 k y0 y1 y2 y3 y4) (dom_right.l0 (k + 1) y0 y1 y2 y3 y4))
 | 0 => fun _ _ _ _ _ r h => by simp [dom_right.l0] at h
 | k + 1 => by
  have ih0 := dom_right.mono_l k
  ·intro y0 y1 y2 y3 y4
   unfold dom_right.l0
   repeat' first
   | (with_reducible exact ih0 _ _ _ _ _)
   | (with_reducible exact dom_depth.mono _ _ _)
   | (with_reducible exact LeO.refl _)
   | (with_reducible exact LeO.none _)
   | (with_reducible refine LeO.ite ?_ ?_)
   | (with_reducible refine LeO.bind ?_ (fun _ => ?_))
   | exact ih0 _ _ _ _ _
   | exact dom_depth.mono _ _ _
   | exact LeO.none _
   | refine LeO.ite ?_ ?_
   | refine LeO.bind ?_ (fun _ => ?_)
theorem dom_right.mono : ∀ a0 k, LeO (dom_right.f k a0) (dom_right.f (k + 1) a0) := by
 intro a0 k
 have ih0 := dom_right.mono_l k
 unfold dom_right.f
 repeat' first
  | (with_reducible exact ih0 _ _ _ _ _)
  | (with_reducible exact dom_depth.mono _ _ _)
  | (with_reducible exact LeO.refl _)
  | (with_reducible exact LeO.none _)
  | (with_reducible refine LeO.ite ?_ ?_)
  | (with_reducible refine LeO.bind ?_ (fun _ => ?_))
  | exact ih0 _ _ _ _ _
  | exact dom_depth.mono _ _ _
  | exact LeO.none _
  | refine LeO.ite ?_ ?_
  | refine LeO.bind ?_ (fun _ => ?_)
set_option maxHeartbeats 8000000 in
set_option maxRecDepth 100000 in
theorem dom_right.calls (k : Nat) (A0 : Option Addr) (c0 : Nat) (l0 : List Int) (r : Bool) (w : World) (hr0 : Kd.C (Kd.int .i64) w A0 l0.length l0) (hc0 : l0.length ≤ c0) (h : dom_right.f k l0 = some r) :
 Calls Try.prog 50 #[.slice A0 l0.length c0] w fun e w' => e = .returned (.bool r) ∧ Drawn0 w w' := by
 have HR0 := Aside0.mk hr0
 have HC0 := Aside0.mk hc0
 clear hr0 hc0
 have H : (dom_right.l0 k l0 0 l0 (l0.length : Int) 0) = some r := h
 clear h
 have H' := Aside0.mk H
 clear H
 go_enter Try.func50, Try.ntmps50
 go_wp2
 go_loopg [3, 8] k (fun kq v3 v8 w' => ∃ (x3_1 : Int) (x8_1 : Int), v3 = .int .i64 x3_1 ∧ v8 = .int .i64 x8_1 ∧ Aside0 (dom_right.l0 kq l0 x3_1 l0 (l0.length : Int) x8_1 = some r) ∧ Aside0 (kq ≤ k) ∧ Drawn0 w w')
 case atStart => exact ⟨(0), (0), (by first | rfl | (simp; done) | (simp [*]; done)), (by first | rfl | (simp; done) | (simp [*]; done)), H', ⟨Nat.le_refl _⟩, by repeat (first | exact Drawn0.refl _ | apply Drawn0.step)⟩
 case round =>
  clear H'
  obtain ⟨x3_1, x8_1, rfl, rfl, HA, HK1, ⟨m1, rfl⟩⟩ := hrel
  cases gk with
  | zero => exact absurd HA.out (by simp [dom_right.l0])
  | succ k1 =>
   have H := HA.out
   clear HA
   simp only [dom_right.l0] at H
   by_cases c2 : x8_1 < (l0.length : Int)
   ·rw [if_pos c2] at H
    have c2b0 : decide (x8_1 < (l0.length : Int)) = true := decide_eq_true c2
    clear c2
    by_cases c3 : 0 ≤ x8_1
    ·rw [if_pos c3] at H
     have c3b0 : decide (0 ≤ x8_1) = true := decide_eq_true c3
     clear c3
     by_cases c4 : x8_1 < (l0.length : Int)
     ·rw [if_pos c4] at H
      have c4b0 : decide (x8_1 < (l0.length : Int)) = true := decide_eq_true c4
      clear c4
      by_cases c5 : (rd l0 x8_1) = (-1)
      ·rw [if_pos c5] at H
       have c5b0 : ((rd l0 x8_1) == (-1)) = true := beq_iff_eq.mpr c5
       have c5b1 : ((rd l0 x8_1) != (-1)) = false := bne_eq_false_iff_eq.mpr c5
       clear c5
       by_cases c6 : (rd l0 x8_1) = (-2)
       ·rw [if_pos c6] at H
        have c6b0 : ((rd l0 x8_1) == (-2)) = true := beq_iff_eq.mpr c6
        have c6b1 : ((rd l0 x8_1) != (-2)) = false := bne_eq_false_iff_eq.mpr c6
        clear c6
        have H' := Aside0.mk H
        clear H
        have p243 : 0 ≤ (x8_1 : Int) := D_
        have q243 : x8_1 < (l0.length : Int) := D_
        obtain ⟨ad243, e243, hx243_0⟩ := Kd.at_int HR0.out x8_1 p243 q243
        cases e243
        replace p243 := eq_true p243
        replace q243 := eq_true q243
        go_wp2
        go_roundg k1
        case measure => have := HK1.out; omega
        case rel => exact ⟨(wrap64 (x3_1 + 1)), (wrap64 (x8_1 + 1)), (by first | rfl | (simp; done) | (simp [*]; done)), (by first | rfl | (simp; done) | (simp [*]; done)), H', ⟨by have := HK1.out; omega⟩, by repeat (first | exact Drawn0.refl _ | apply Drawn0.step)⟩
       rw [if_neg c6] at H
       have c6b0 : ((rd l0 x8_1) == (-2)) = false := beq_eq_false_iff_ne.mpr c6
       have c6b1 : ((rd l0 x8_1) != (-2)) = true := bne_iff_ne.mpr c6
       replace H := Option.bind_eq_some_iff.mp H
       obtain ⟨t244, A70, H⟩ := H
       replace H : (if t244 < 0 then (some false) else (dom_right.l0 k1 l0 (wrap64 (x3_1 + 1)) l0 (l0.length : Int) (wrap64 (x8_1 + 1)))) = some r := H
       have A7 := Aside0.mk A70
       clear A70
       by_cases c8 : t244 < 0
       ·rw [if_pos c8] at H
        have c8b0 : decide (t244 < 0) = true := decide_eq_true c8
        clear c8
        obtain rfl := Option.some.inj H
        have p243 : 0 ≤ (x8_1 : Int) := D_
        have q243 : x8_1 < (l0.length : Int) := D_
        obtain ⟨ad243, e243, hx243_0⟩ := Kd.at_int HR0.out x8_1 p243 q243
        cases e243
        replace p243 := eq_true p243
        replace q243 := eq_true q243
        go_wp2_with (first | (go_at_call 47; (with_reducible refine (dom_depth.calls k1 _ _ l0 x8_1 t244 _ ?side1 ?side2 A7.out).mono ?_); (case side1 => exact CX_ HR0.out); (case side2 => exact HC0.out); rintro e w' ⟨rfl, ⟨nd, rfl⟩⟩))
        go_ret
        exact ⟨by first | rfl | (simp; done) | (simp [*]; done), by repeat (first | exact Drawn0.refl _ | apply Drawn0.step)⟩
       rw [if_neg c8] at H
       have c8b0 : decide (t244 < 0) = false := decide_eq_false c8
       clear c8
       have H' := Aside0.mk H
       clear H
       have p243 : 0 ≤ (x8_1 : Int) := D_
       have q243 : x8_1 < (l0.length : Int) := D_
       obtain ⟨ad243, e243, hx243_0⟩ := Kd.at_int HR0.out x8_1 p243 q243
       cases e243
       replace p243 := eq_true p243
       replace q243 := eq_true q243
       go_wp2_with (first | (go_at_call 47; (with_reducible refine (dom_depth.calls k1 _ _ l0 x8_1 t244 _ ?side1 ?side2 A7.out).mono ?_); (case side1 => exact CX_ HR0.out); (case side2 => exact HC0.out); rintro e w' ⟨rfl, ⟨nd, rfl⟩⟩))
       go_roundg k1
       case measure => have := HK1.out; omega
       case rel => exact ⟨(wrap64 (x3_1 + 1)), (wrap64 (x8_1 + 1)), (by first | rfl | (simp; done) | (simp [*]; done)), (by first | rfl | (simp; done) | (simp [*]; done)), H', ⟨by have := HK1.out; omega⟩, by repeat (first | exact Drawn0.refl _ | apply Drawn0.step)⟩
      rw [if_neg c5] at H
      have c5b0 : ((rd l0 x8_1) == (-1)) = false := beq_eq_false_iff_ne.mpr c5
      have c5b1 : ((rd l0 x8_1) != (-1)) = true := bne_iff_ne.mpr c5
      by_cases c9 : (rd l0 x8_1) = (-2)
      ·rw [if_pos c9] at H
       have c9b0 : ((rd l0 x8_1) == (-2)) = true := beq_iff_eq.mpr c9
       have c9b1 : ((rd l0 x8_1) != (-2)) = false := bne_eq_false_iff_eq.mpr c9
       clear c9
       have H' := Aside0.mk H
       clear H
       have p243 : 0 ≤ (x8_1 : Int) := D_
       have q243 : x8_1 < (l0.length : Int) := D_
       obtain ⟨ad243, e243, hx243_0⟩ := Kd.at_int HR0.out x8_1 p243 q243
       cases e243
       replace p243 := eq_true p243
       replace q243 := eq_true q243
       go_wp2
       go_roundg k1
       case measure => have := HK1.out; omega
       case rel => exact ⟨(x3_1), (wrap64 (x8_1 + 1)), (by first | rfl | (simp; done) | (simp [*]; done)), (by first | rfl | (simp; done) | (simp [*]; done)), H', ⟨by have := HK1.out; omega⟩, by repeat (first | exact Drawn0.refl _ | apply Drawn0.step)⟩
      rw [if_neg c9] at H
      have c9b0 : ((rd l0 x8_1) == (-2)) = false := beq_eq_false_iff_ne.mpr c9
      have c9b1 : ((rd l0 x8_1) != (-2)) = true := bne_iff_ne.mpr c9
      replace H := Option.bind_eq_some_iff.mp H
      obtain ⟨t245, A100, H⟩ := H
      replace H : (if t245 < 0 then (some false) else (dom_right.l0 k1 l0 x3_1 l0 (l0.length : Int) (wrap64 (x8_1 + 1)))) = some r := H
      have A10 := Aside0.mk A100
      clear A100
      by_cases c11 : t245 < 0
      ·rw [if_pos c11] at H
       have c11b0 : decide (t245 < 0) = true := decide_eq_true c11
       clear c11
       obtain rfl := Option.some.inj H
       have p243 : 0 ≤ (x8_1 : Int) := D_
       have q243 : x8_1 < (l0.length : Int) := D_
       obtain ⟨ad243, e243, hx243_0⟩ := Kd.at_int HR0.out x8_1 p243 q243
       cases e243
       replace p243 := eq_true p243
       replace q243 := eq_true q243
       go_wp2_with (first | (go_at_call 47; (with_reducible refine (dom_depth.calls k1 _ _ l0 x8_1 t245 _ ?side1 ?side2 A10.out).mono ?_); (case side1 => exact CX_ HR0.out); (case side2 => exact HC0.out); rintro e w' ⟨rfl, ⟨nd, rfl⟩⟩))
       go_ret
       exact ⟨by first | rfl | (simp; done) | (simp [*]; done), by repeat (first | exact Drawn0.refl _ | apply Drawn0.step)⟩
      rw [if_neg c11] at H
      have c11b0 : decide (t245 < 0) = false := decide_eq_false c11
      clear c11
      have H' := Aside0.mk H
      clear H
      have p243 : 0 ≤ (x8_1 : Int) := D_
      have q243 : x8_1 < (l0.length : Int) := D_
      obtain ⟨ad243, e243, hx243_0⟩ := Kd.at_int HR0.out x8_1 p243 q243
      cases e243
      replace p243 := eq_true p243
      replace q243 := eq_true q243
      go_wp2_with (first | (go_at_call 47; (with_reducible refine (dom_depth.calls k1 _ _ l0 x8_1 t245 _ ?side1 ?side2 A10.out).mono ?_); (case side1 => exact CX_ HR0.out); (case side2 => exact HC0.out); rintro e w' ⟨rfl, ⟨nd, rfl⟩⟩))
      go_roundg k1
      case measure => have := HK1.out; omega
      case rel => exact ⟨(x3_1), (wrap64 (x8_1 + 1)), (by first | rfl | (simp; done) | (simp [*]; done)), (by first | rfl | (simp; done) | (simp [*]; done)), H', ⟨by have := HK1.out; omega⟩, by repeat (first | exact Drawn0.refl _ | apply Drawn0.step)⟩
     rw [if_neg c4] at H
     exact absurd H (by simp)
    rw [if_neg c3] at H
    exact absurd H (by simp)
   rw [if_neg c2] at H
   have c2b0 : decide (x8_1 < (l0.length : Int)) = false := decide_eq_false c2
   clear c2
   obtain rfl := Option.some.inj H
   go_wp2
   go_ret
   exact ⟨by first | rfl | (simp; done) | (simp [*]; done), by repeat (first | exact Drawn0.refl _ | apply Drawn0.step)⟩

end Go.Proofs.Ytoekeknfeinphaa.G
