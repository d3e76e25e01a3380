/- Printed by a program of this session (wip/tools/op.py, over the kit's print program): Go functions as plain Lean functions, each with a proof that the call answers so. Conditions: each theorem's own. -/
import Derived.Test.YtheillkpgmpnlaaGx0
import Derived.Test.YtheillkpgmpnlaaGx2
namespace Go.Proofs.Ytheillkpgmpnlaa.G
open Go.Proofs.YtheillkpgmpnlaaH
open Go.RowKit Go.Proofs.YtheillkpgmpnlaaW.PrintWords Go.Proofs.YtheillkpgmpnlaaW.PrintLast Go.Proofs.YtheillkpgmpnlaaW.PrintMore
attribute [local go_sem] max2_int min2_int max_two min_two max_three min_three max_four min_four   -- for this text's walks alone
set_option linter.unusedVariables false
set_option linter.unusedSimpArgs false

/-! ### graph_Make_1: function 32 -/
def graph_Make_1.f (k : Nat) (l0 : List Int) (a1 : Int) : Option (Bool) := (graph_rising.f k l0 a1).bind fun t120 => (some (!t120))
theorem graph_Make_1.mono : ∀ a0 a1 k, LeO (graph_Make_1.f k a0 a1) (graph_Make_1.f (k + 1) a0 a1) := by
 intro a0 a1 k
 unfold graph_Make_1.f
 repeat' (with_reducible first | exact graph_rising.mono _ _ _ | exact LeO.refl _ | exact LeO.none _ | refine LeO.ite ?_ ?_ | refine LeO.bind ?_ (fun _ => ?_))
set_option maxHeartbeats 8000000 in
set_option maxRecDepth 100000 in
theorem graph_Make_1.calls (k : Nat) (A0 : Option Addr) (c0 : Nat) (l0 : List Int) (g1_ : Nat) (a1 : Int) (r : Bool) (w : World) (hr0 : Kd.C (Kd.int .i64) w A0 l0.length l0) (hc0 : l0.length ≤ c0) (hcb1 : w.cell? ⟨g1_, 0, none⟩ = some (.int .i64 a1)) (h : graph_Make_1.f k l0 a1 = some r) :
 Calls Try.prog 32 #[.slice A0 l0.length c0, .pointer (some ⟨g1_, 0, none⟩)] w fun e w' => e = .returned (.bool r) ∧ Drawn0 w w' := by
 have HR0 := Aside0.mk hr0
 have HC0 := Aside0.mk hc0
 clear hr0 hc0
 have H : ((graph_rising.f k l0 a1).bind fun t120 => (some (!t120))) = some r := h
 clear h
 replace H := Option.bind_eq_some_iff.mp H
 obtain ⟨t120, A30, H⟩ := H
 try dsimp only at H
 have A3 := Aside0.mk A30
 clear A30
 obtain rfl := Option.some.inj H
 go_enter Try.func32, Try.ntmps32
 go_wp2_with (first | ((with_reducible refine gate_callee (f := 33) rfl ?_); refine goesL_ (some 6) rfl rfl Try.func33 (by kernel_rfl) rfl #[.slice A0 l0.length c0, .int .i64 a1] rfl (by (try simp only [List.map_toArray, List.map_cons, List.map_nil]); first | done | rfl | (simp only [List.length_drop, List.length_take]; rfl)) ?_; (with_reducible refine (graph_rising.calls k _ _ l0 a1 t120 _ ?side1 ?side2 A3.out).mono ?_); (case side1 => exact CX_ HR0.out); (case side2 => exact HC0.out); rintro e w' ⟨rfl, ⟨nd, rfl⟩⟩; refine ⟨_, rfl, ?_⟩))
 go_ret
 exact ⟨by first | rfl | (simp; done) | (simp [*]; done), by repeat (first | exact Drawn0.refl _ | apply Drawn0.step)⟩

/-! ### slices_IndexFunc_int_int_graph_Make_1: function 54 -/
def slices_IndexFunc_int_int_graph_Make_1.l0 : Nat → List (List Int) → Int → Int → Int → Option (Int)
 | 0, _, _, _, _ => none
 | k + 1, x0, x7, x8, x2000 => if x8 < x7 then (if 0 ≤ x8 then (if x8 < (x0.length : Int) then ((graph_Make_1.f k (rd_L1 x0 x8) x2000).bind fun t124 => (if t124 = true then (some x8) else (slices_IndexFunc_int_int_graph_Make_1.l0 k x0 x7 (wrap64 (x8 + 1)) x2000))) else (none)) else (none)) else (some (-1))
def slices_IndexFunc_int_int_graph_Make_1.f (k : Nat) (l0 : List (List Int)) (a1 : Int) : Option (Int) := slices_IndexFunc_int_int_graph_Make_1.l0 k l0 (l0.length : Int) 0 a1
theorem slices_IndexFunc_int_int_graph_Make_1.mono_l : ∀ k, (∀ y0 y1 y2 y3, LeO (slices_IndexFunc_int_int_graph_Make_1.l0 k y0 y1 y2 y3) (slices_IndexFunc_int_int_graph_Make_1.l0 (k + 1) y0 y1 y2 y3))
 | 0 => fun _ _ _ _ r h => by simp [slices_IndexFunc_int_int_graph_Make_1.l0] at h
 | k + 1 => by
  have ih0 := slices_IndexFunc_int_int_graph_Make_1.mono_l k
  ·intro y0 y1 y2 y3
   unfold slices_IndexFunc_int_int_graph_Make_1.l0
   repeat' (with_reducible first | exact ih0 _ _ _ _ | exact graph_Make_1.mono _ _ _ | exact LeO.refl _ | exact LeO.none _ | refine LeO.ite ?_ ?_ | refine LeO.bind ?_ (fun _ => ?_))
theorem slices_IndexFunc_int_int_graph_Make_1.mono : ∀ a0 a1 k, LeO (slices_IndexFunc_int_int_graph_Make_1.f k a0 a1) (slices_IndexFunc_int_int_graph_Make_1.f (k + 1) a0 a1) := by
 intro a0 a1 k
 have ih0 := slices_IndexFunc_int_int_graph_Make_1.mono_l k
 unfold slices_IndexFunc_int_int_graph_Make_1.f
 repeat' (with_reducible first | exact ih0 _ _ _ _ | exact graph_Make_1.mono _ _ _ | exact LeO.refl _ | exact LeO.none _ | refine LeO.ite ?_ ?_ | refine LeO.bind ?_ (fun _ => ?_))
set_option maxHeartbeats 8000000 in
set_option maxRecDepth 100000 in
theorem slices_IndexFunc_int_int_graph_Make_1.calls (k : Nat) (A0 : Option Addr) (c0 : Nat) (l0 : List (List Int)) (g1_ : Nat) (a1 : Int) (r : Int) (w : World) (hr0 : Kd.C (Kd.slice 3 (Kd.int .i64)) w A0 l0.length l0) (hc0 : l0.length ≤ c0) (hcb1 : w.cell? ⟨g1_, 0, none⟩ = some (.int .i64 a1)) (h : slices_IndexFunc_int_int_graph_Make_1.f k l0 a1 = some r) :
 Calls Try.prog 54 #[.slice A0 l0.length c0, .func (.func 32) #[] #[.pointer (some ⟨g1_, 0, none⟩)]] w fun e w' => e = .returned (.int .i64 r) ∧ Drawn0 w w' := by
 have HR0 := Aside0.mk hr0
 have HC0 := Aside0.mk hc0
 clear hr0 hc0
 have H : (slices_IndexFunc_int_int_graph_Make_1.l0 k l0 (l0.length : Int) 0 a1) = some r := h
 clear h
 have H' := Aside0.mk H
 clear H
 go_enter Try.func54, Try.ntmps54
 go_wp2
 go_loopg [8] k (fun kq v8 w' => ∃ (x8_1 : Int), v8 = .int .i64 x8_1 ∧ Aside0 (slices_IndexFunc_int_int_graph_Make_1.l0 kq l0 (l0.length : Int) x8_1 a1 = some r) ∧ Aside0 (kq ≤ k) ∧ Drawn0 w w')
 case atStart => exact ⟨(0), (by first | rfl | (simp; done) | (simp [*]; done)), H', ⟨Nat.le_refl _⟩, by repeat (first | exact Drawn0.refl _ | apply Drawn0.step)⟩
 case round =>
  clear H'
  obtain ⟨x8_1, rfl, HA, HK1, ⟨m1, rfl⟩⟩ := hrel
  cases gk with
  | zero => exact absurd HA.out (by simp [slices_IndexFunc_int_int_graph_Make_1.l0])
  | succ k1 =>
   have H := HA.out
   clear HA
   simp only [slices_IndexFunc_int_int_graph_Make_1.l0] at H
   by_cases c3 : x8_1 < (l0.length : Int)
   ·rw [if_pos c3] at H
    have c3b0 : decide (x8_1 < (l0.length : Int)) = true := decide_eq_true c3
    clear c3
    by_cases c4 : 0 ≤ x8_1
    ·rw [if_pos c4] at H
     have c4b0 : decide (0 ≤ x8_1) = true := decide_eq_true c4
     clear c4
     by_cases c5 : x8_1 < (l0.length : Int)
     ·rw [if_pos c5] at H
      have c5b0 : decide (x8_1 < (l0.length : Int)) = true := decide_eq_true c5
      clear c5
      replace H := Option.bind_eq_some_iff.mp H
      obtain ⟨t124, A60, H⟩ := H
      try dsimp only at H
      have A6 := Aside0.mk A60
      clear A60
      by_cases c7 : t124 = true
      ·subst c7
       have H1 : (some x8_1) = some r := by rw [if_pos rfl] at H; exact H
       clear H
       have H := H1
       clear H1
       obtain rfl := Option.some.inj H
       have p123 : 0 ≤ (x8_1 : Int) := D_
       have q123 : x8_1 < (l0.length : Int) := D_
       obtain ⟨ad123, A123_0, c123_0, e123, hx123_0, hl123_0, hi123_0⟩ := at_L1 HR0.out x8_1 p123 q123
       cases e123
       have HR123_0 := Aside0.mk hi123_0
       have HC123_0 := Aside0.mk hl123_0
       clear hi123_0 hl123_0
       replace p123 := eq_true p123
       replace q123 := eq_true q123
       go_wp2_with (first | (go_at_call 32; (with_reducible refine (graph_Make_1.calls k1 _ _ (rd_L1 l0 x8_1) g1_ a1 true _ ?side1 ?side2 ?side3 A6.out).mono ?_); (case side1 => exact CX_ HR123_0.out); (case side2 => exact HC123_0.out); (case side3 => exact (by first | exact hcb1 | simpa using hcb1)); rintro e w' ⟨rfl, ⟨nd, rfl⟩⟩))
       go_ret
       exact ⟨by first | rfl | (simp; done) | (simp [*]; done), by repeat (first | exact Drawn0.refl _ | apply Drawn0.step)⟩
      replace c7 := Bool.eq_false_iff.mpr c7
      subst c7
      have H1 : (slices_IndexFunc_int_int_graph_Make_1.l0 k1 l0 (l0.length : Int) (wrap64 (x8_1 + 1)) a1) = some r := by rw [if_neg (show ¬ (false = true) by decide)] at H; exact H
      clear H
      have H := H1
      clear H1
      have H' := Aside0.mk H
      clear H
      have p123 : 0 ≤ (x8_1 : Int) := D_
      have q123 : x8_1 < (l0.length : Int) := D_
      obtain ⟨ad123, A123_0, c123_0, e123, hx123_0, hl123_0, hi123_0⟩ := at_L1 HR0.out x8_1 p123 q123
      cases e123
      have HR123_0 := Aside0.mk hi123_0
      have HC123_0 := Aside0.mk hl123_0
      clear hi123_0 hl123_0
      replace p123 := eq_true p123
      replace q123 := eq_true q123
      go_wp2_with (first | (go_at_call 32; (with_reducible refine (graph_Make_1.calls k1 _ _ (rd_L1 l0 x8_1) g1_ a1 false _ ?side1 ?side2 ?side3 A6.out).mono ?_); (case side1 => exact CX_ HR123_0.out); (case side2 => exact HC123_0.out); (case side3 => exact (by first | exact hcb1 | simpa using hcb1)); rintro e w' ⟨rfl, ⟨nd, rfl⟩⟩))
      go_roundg k1
      case measure => have := HK1.out; omega
      case rel => exact ⟨(wrap64 (x8_1 + 1)), (by first | rfl | (simp; done) | (simp [*]; done)), H', ⟨by have := HK1.out; omega⟩, by repeat (first | exact Drawn0.refl _ | apply Drawn0.step)⟩
     rw [if_neg c5] at H
     exact absurd H (by simp)
    rw [if_neg c4] at H
    exact absurd H (by simp)
   rw [if_neg c3] at H
   have c3b0 : decide (x8_1 < (l0.length : Int)) = false := decide_eq_false c3
   clear c3
   obtain rfl := Option.some.inj H
   go_wp2
   go_ret
   exact ⟨by first | rfl | (simp; done) | (simp [*]; done), by repeat (first | exact Drawn0.refl _ | apply Drawn0.step)⟩

/-! ### slices_ContainsFunc_int_int_graph_Make_1: function 31 -/
def slices_ContainsFunc_int_int_graph_Make_1.f (k : Nat) (l0 : List (List Int)) (a1 : Int) : Option (Bool) := (slices_IndexFunc_int_int_graph_Make_1.f k l0 a1).bind fun t125 => (some (decide (t125 ≥ 0)))
theorem slices_ContainsFunc_int_int_graph_Make_1.mono : ∀ a0 a1 k, LeO (slices_ContainsFunc_int_int_graph_Make_1.f k a0 a1) (slices_ContainsFunc_int_int_graph_Make_1.f (k + 1) a0 a1) := by
 intro a0 a1 k
 unfold slices_ContainsFunc_int_int_graph_Make_1.f
 repeat' (with_reducible first | exact slices_IndexFunc_int_int_graph_Make_1.mono _ _ _ | exact LeO.refl _ | exact LeO.none _ | refine LeO.ite ?_ ?_ | refine LeO.bind ?_ (fun _ => ?_))
set_option maxHeartbeats 8000000 in
set_option maxRecDepth 100000 in
theorem slices_ContainsFunc_int_int_graph_Make_1.calls (k : Nat) (A0 : Option Addr) (c0 : Nat) (l0 : List (List Int)) (g1_ : Nat) (a1 : Int) (r : Bool) (w : World) (hr0 : Kd.C (Kd.slice 3 (Kd.int .i64)) w A0 l0.length l0) (hc0 : l0.length ≤ c0) (hcb1 : w.cell? ⟨g1_, 0, none⟩ = some (.int .i64 a1)) (h : slices_ContainsFunc_int_int_graph_Make_1.f k l0 a1 = some r) :
 Calls Try.prog 31 #[.slice A0 l0.length c0, .func (.func 32) #[] #[.pointer (some ⟨g1_, 0, none⟩)]] w fun e w' => e = .returned (.bool r) ∧ Drawn0 w w' := by
 have HR0 := Aside0.mk hr0
 have HC0 := Aside0.mk hc0
 clear hr0 hc0
 have H : ((slices_IndexFunc_int_int_graph_Make_1.f k l0 a1).bind fun t125 => (some (decide (t125 ≥ 0)))) = some r := h
 clear h
 replace H := Option.bind_eq_some_iff.mp H
 obtain ⟨t125, A30, H⟩ := H
 try dsimp only at H
 have A3 := Aside0.mk A30
 clear A30
 obtain rfl := Option.some.inj H
 go_enter Try.func31, Try.ntmps31
 go_wp2_with (first | ((with_reducible refine gate_callee (f := 54) rfl ?_); refine goesL_ (some 7) rfl rfl Try.func54 (by kernel_rfl) rfl #[.slice A0 l0.length c0, .func (.func 32) #[] #[.pointer (some ⟨g1_, 0, none⟩)]] rfl (by (try simp only [List.map_toArray, List.map_cons, List.map_nil]); first | done | rfl | (simp only [List.length_drop, List.length_take]; rfl)) ?_; (with_reducible refine (slices_IndexFunc_int_int_graph_Make_1.calls k _ _ l0 g1_ a1 t125 _ ?side1 ?side2 ?side3 A3.out).mono ?_); (case side1 => exact CX_ HR0.out); (case side2 => exact HC0.out); (case side3 => exact (by first | exact hcb1 | simpa using hcb1)); rintro e w' ⟨rfl, ⟨nd, rfl⟩⟩; refine ⟨_, rfl, ?_⟩))
 go_ret
 exact ⟨by first | rfl | (simp; done) | (simp [*]; done), by repeat (first | exact Drawn0.refl _ | apply Drawn0.step)⟩

end Go.Proofs.Ytheillkpgmpnlaa.G
