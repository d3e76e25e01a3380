/- Printed by a program of this session (wip/tools/op.py, over the kit's print program): Go functions as plain Lean functions, each with a proof that the call answers so. Conditions: each theorem's own. -/
import Derived.Test.YtoekeknfeinphaaGx0
import Derived.Test.YtoekeknfeinphaaGx16
import Derived.Test.YtoekeknfeinphaaGx17
namespace Go.Proofs.Ytoekeknfeinphaa.G
open Go.Proofs.YtoekeknfeinphaaH
open Go.RowKit Go.Proofs.YtoekeknfeinphaaW.PrintWords Go.Proofs.YtoekeknfeinphaaW.PrintLast Go.Proofs.YtoekeknfeinphaaW.PrintMore
attribute [local go_sem] max2_int min2_int max_two min_two max_three min_three max_four min_four   -- for this text's walks alone
set_option linter.unusedVariables false
set_option linter.unusedSimpArgs false

/-! ### dom_in: function 35 -/
def dom_in_1.f (k : Nat) (a0 : Int) (l1 : List Int) : Option Bool := (dom_depth.f k l1 a0).bind fun t => some (decide (t < 0))
theorem dom_in_1.mono : ∀ a0 a1 k, LeO (dom_in_1.f k a0 a1) (dom_in_1.f (k + 1) a0 a1) := by
 intro a0 a1 k
 unfold dom_in_1.f
 exact LeO.bind (dom_depth.mono _ _ _) (fun _ => LeO.refl _)
set_option maxHeartbeats 8000000 in
set_option maxRecDepth 100000 in
theorem dom_in_1.calls (k : Nat) (a0 : Int) (g1_ : Nat) (A1 : Option Addr) (c1 : Nat) (l1 : List Int) (r : Bool) (w : World) (hr1 : Kd.C (Kd.int .i64) w A1 l1.length l1) (hc1 : l1.length ≤ c1) (hcb1 : w.cell? ⟨g1_, 0, none⟩ = some (.slice A1 l1.length c1)) (h : dom_in_1.f k a0 l1 = some r) :
 Calls Try.prog 52 #[.int .i64 a0, .pointer (some ⟨g1_, 0, none⟩)] w fun e w' => e = .returned (.bool r) ∧ Drawn0 w w' := by
 have HR1 := Aside0.mk hr1
 have HC1 := Aside0.mk hc1
 clear hr1 hc1
 have H : ((dom_depth.f k l1 a0).bind fun t => some (decide (t < 0))) = some r := h
 clear h
 replace H := Option.bind_eq_some_iff.mp H
 obtain ⟨t1, A1_, H⟩ := H
 replace H : some (decide (t1 < 0)) = some r := H
 have A3 := Aside0.mk A1_
 clear A1_
 obtain rfl := Option.some.inj H
 clear H
 go_enter Try.func52, Try.ntmps52
 go_wp2_with (first | (go_at_call 47; (with_reducible refine (dom_depth.calls k _ _ l1 a0 t1 _ ?side1 ?side2 A3.out).mono ?_); (case side1 => exact CX_ HR1.out); (case side2 => exact HC1.out); rintro e w' ⟨rfl, ⟨nd, rfl⟩⟩))
 go_ret
 exact ⟨by first | rfl | (simp; done) | (simp [*]; done), by repeat (first | exact Drawn0.refl _ | apply Drawn0.step)⟩

def slices_IndexFunc_int_int_dom_in_1.l0 : Nat → List Int → Int → Int → List Int → Option (Int)
 | 0, _, _, _, _ => none
 | k + 1, x0, x7, x8, x2000 => if x8 < x7 then (if 0 ≤ x8 then (if x8 < (x0.length : Int) then ((dom_in_1.f k (rd x0 x8) x2000).bind fun t124 => (if t124 = true then (some x8) else (slices_IndexFunc_int_int_dom_in_1.l0 k x0 x7 (wrap64 (x8 + 1)) x2000))) else (none)) else (none)) else (some (-1))
def slices_IndexFunc_int_int_dom_in_1.f (k : Nat) (l0 : List Int) (l1 : List Int) : Option (Int) := slices_IndexFunc_int_int_dom_in_1.l0 k l0 (l0.length : Int) 0 l1
theorem slices_IndexFunc_int_int_dom_in_1.mono_l : ∀ k, (∀ y0 y1 y2 y3, LeO (slices_IndexFunc_int_int_dom_in_1.l0 k y0 y1 y2 y3) (slices_IndexFunc_int_int_dom_in_1.l0 (k + 1) y0 y1 y2 y3))
 | 0 => fun _ _ _ _ r h => by simp [slices_IndexFunc_int_int_dom_in_1.l0] at h
 | k + 1 => by
  have ih0 := slices_IndexFunc_int_int_dom_in_1.mono_l k
  ·intro y0 y1 y2 y3
   unfold slices_IndexFunc_int_int_dom_in_1.l0
   repeat' first
   | (with_reducible exact ih0 _ _ _ _)
   | (with_reducible exact dom_in_1.mono _ _ _)
   | (with_reducible exact LeO.refl _)
   | (with_reducible exact LeO.none _)
   | (with_reducible refine LeO.ite ?_ ?_)
   | (with_reducible refine LeO.bind ?_ (fun _ => ?_))
theorem slices_IndexFunc_int_int_dom_in_1.mono : ∀ a0 a1 k, LeO (slices_IndexFunc_int_int_dom_in_1.f k a0 a1) (slices_IndexFunc_int_int_dom_in_1.f (k + 1) a0 a1) :=
 fun a0 a1 k => slices_IndexFunc_int_int_dom_in_1.mono_l k _ _ _ _
set_option maxHeartbeats 8000000 in
set_option maxRecDepth 100000 in
theorem slices_IndexFunc_int_int_dom_in_1.calls (k : Nat) (A0 : Option Addr) (c0 : Nat) (l0 : List Int) (g1_ : Nat) (A1 : Option Addr) (c1 : Nat) (l1 : List Int) (r : Int) (w : World) (hr0 : Kd.C (Kd.int .i64) w A0 l0.length l0) (hc0 : l0.length ≤ c0) (hr1 : Kd.C (Kd.int .i64) w A1 l1.length l1) (hc1 : l1.length ≤ c1) (hcb1 : w.cell? ⟨g1_, 0, none⟩ = some (.slice A1 l1.length c1)) (h : slices_IndexFunc_int_int_dom_in_1.f k l0 l1 = some r) :
 Calls Try.prog 62 #[.slice A0 l0.length c0, .func (.func 52) #[] #[.pointer (some ⟨g1_, 0, none⟩)]] w fun e w' => e = .returned (.int .i64 r) ∧ Drawn0 w w' := by
 have HR0 := Aside0.mk hr0
 have HC0 := Aside0.mk hc0
 have HR1 := Aside0.mk hr1
 have HC1 := Aside0.mk hc1
 clear hr0 hc0 hr1 hc1
 have H : (slices_IndexFunc_int_int_dom_in_1.l0 k l0 (l0.length : Int) 0 l1) = some r := h
 clear h
 have H' := Aside0.mk H
 clear H
 go_enter Try.func62, Try.ntmps62
 go_wp2
 go_loopg [8] k (fun kq v8 w' => ∃ (x8_1 : Int), v8 = .int .i64 x8_1 ∧ Aside0 (slices_IndexFunc_int_int_dom_in_1.l0 kq l0 (l0.length : Int) x8_1 l1 = some r) ∧ Aside0 (kq ≤ k) ∧ Drawn0 w w')
 case atStart => exact ⟨(0), (by first | rfl | (simp; done) | (simp [*]; done)), H', ⟨Nat.le_refl _⟩, by repeat (first | exact Drawn0.refl _ | apply Drawn0.step)⟩
 case round =>
  clear H'
  obtain ⟨x8_1, rfl, HA, HK1, ⟨m1, rfl⟩⟩ := hrel
  cases gk with
  | zero => exact absurd HA.out (by simp [slices_IndexFunc_int_int_dom_in_1.l0])
  | succ k1 =>
   have H := HA.out
   clear HA
   simp only [slices_IndexFunc_int_int_dom_in_1.l0] at H
   by_cases c3 : x8_1 < (l0.length : Int)
   ·rw [if_pos c3] at H
    have c3b0 : decide (x8_1 < (l0.length : Int)) = true := decide_eq_true c3
    clear c3
    by_cases c4 : 0 ≤ x8_1
    ·rw [if_pos c4] at H
     have c4b0 : decide (0 ≤ x8_1) = true := decide_eq_true c4
     clear c4
     by_cases c5 : x8_1 < (l0.length : Int)
     ·rw [if_pos c5] at H
      have c5b0 : decide (x8_1 < (l0.length : Int)) = true := decide_eq_true c5
      clear c5
      replace H := Option.bind_eq_some_iff.mp H
      obtain ⟨t124, A60, H⟩ := H
      replace H : (if t124 = true then (some x8_1) else (slices_IndexFunc_int_int_dom_in_1.l0 k1 l0 (l0.length : Int) (wrap64 (x8_1 + 1)) l1)) = some r := H
      have A6 := Aside0.mk A60
      clear A60
      by_cases c7 : t124 = true
      ·subst c7
       have H1 : (some x8_1) = some r := by rw [if_pos rfl] at H; exact H
       clear H
       have H := H1
       clear H1
       obtain rfl := Option.some.inj H
       have p123 : 0 ≤ (x8_1 : Int) := D_
       have q123 : x8_1 < (l0.length : Int) := D_
       obtain ⟨ad123, e123, hx123_0⟩ := Kd.at_int HR0.out x8_1 p123 q123
       cases e123
       replace p123 := eq_true p123
       replace q123 := eq_true q123
       go_wp2_with (first | (go_at_call 52; (with_reducible refine (dom_in_1.calls k1 (rd l0 x8_1) g1_ A1 c1 l1 true _ ?side1 ?side2 ?side3 A6.out).mono ?_); (case side1 => exact CX_ HR1.out); (case side2 => exact HC1.out); (case side3 => exact (by first | exact hcb1 | simpa using hcb1)); rintro e w' ⟨rfl, ⟨nd, rfl⟩⟩))
       go_ret
       exact ⟨by first | rfl | (simp; done) | (simp [*]; done), by repeat (first | exact Drawn0.refl _ | apply Drawn0.step)⟩
      replace c7 := Bool.eq_false_iff.mpr c7
      subst c7
      have H1 : (slices_IndexFunc_int_int_dom_in_1.l0 k1 l0 (l0.length : Int) (wrap64 (x8_1 + 1)) l1) = some r := by rw [if_neg (show ¬ (false = true) by decide)] at H; exact H
      clear H
      have H := H1
      clear H1
      have H' := Aside0.mk H
      clear H
      have p123 : 0 ≤ (x8_1 : Int) := D_
      have q123 : x8_1 < (l0.length : Int) := D_
      obtain ⟨ad123, e123, hx123_0⟩ := Kd.at_int HR0.out x8_1 p123 q123
      cases e123
      replace p123 := eq_true p123
      replace q123 := eq_true q123
      go_wp2_with (first | (go_at_call 52; (with_reducible refine (dom_in_1.calls k1 (rd l0 x8_1) g1_ A1 c1 l1 false _ ?side1 ?side2 ?side3 A6.out).mono ?_); (case side1 => exact CX_ HR1.out); (case side2 => exact HC1.out); (case side3 => exact (by first | exact hcb1 | simpa using hcb1)); rintro e w' ⟨rfl, ⟨nd, rfl⟩⟩))
      go_roundg k1
      case measure => have := HK1.out; omega
      case rel => exact ⟨(wrap64 (x8_1 + 1)), (by first | rfl | (simp; done) | (simp [*]; done)), H', ⟨by have := HK1.out; omega⟩, by repeat (first | exact Drawn0.refl _ | apply Drawn0.step)⟩
     rw [if_neg c5] at H
     exact absurd H (by simp)
    rw [if_neg c4] at H
    exact absurd H (by simp)
   rw [if_neg c3] at H
   have c3b0 : decide (x8_1 < (l0.length : Int)) = false := decide_eq_false c3
   clear c3
   obtain rfl := Option.some.inj H
   go_wp2
   go_ret
   exact ⟨by first | rfl | (simp; done) | (simp [*]; done), by repeat (first | exact Drawn0.refl _ | apply Drawn0.step)⟩

def slices_ContainsFunc_int_int_dom_in_1.f (k : Nat) (l0 : List Int) (l1 : List Int) : Option (Bool) := (slices_IndexFunc_int_int_dom_in_1.f k l0 l1).bind fun t125 => (some (decide (t125 ≥ 0)))
theorem slices_ContainsFunc_int_int_dom_in_1.mono : ∀ a0 a1 k, LeO (slices_ContainsFunc_int_int_dom_in_1.f k a0 a1) (slices_ContainsFunc_int_int_dom_in_1.f (k + 1) a0 a1) := by
 intro a0 a1 k
 unfold slices_ContainsFunc_int_int_dom_in_1.f
 exact LeO.bind (slices_IndexFunc_int_int_dom_in_1.mono _ _ _) (fun _ => LeO.refl _)
set_option maxHeartbeats 8000000 in
set_option maxRecDepth 100000 in
theorem slices_ContainsFunc_int_int_dom_in_1.calls (k : Nat) (A0 : Option Addr) (c0 : Nat) (l0 : List Int) (g1_ : Nat) (A1 : Option Addr) (c1 : Nat) (l1 : List Int) (r : Bool) (w : World) (hr0 : Kd.C (Kd.int .i64) w A0 l0.length l0) (hc0 : l0.length ≤ c0) (hr1 : Kd.C (Kd.int .i64) w A1 l1.length l1) (hc1 : l1.length ≤ c1) (hcb1 : w.cell? ⟨g1_, 0, none⟩ = some (.slice A1 l1.length c1)) (h : slices_ContainsFunc_int_int_dom_in_1.f k l0 l1 = some r) :
 Calls Try.prog 51 #[.slice A0 l0.length c0, .func (.func 52) #[] #[.pointer (some ⟨g1_, 0, none⟩)]] w fun e w' => e = .returned (.bool r) ∧ Drawn0 w w' := by
 have HR0 := Aside0.mk hr0
 have HC0 := Aside0.mk hc0
 have HR1 := Aside0.mk hr1
 have HC1 := Aside0.mk hc1
 clear hr0 hc0 hr1 hc1
 have H : ((slices_IndexFunc_int_int_dom_in_1.f k l0 l1).bind fun t125 => (some (decide (t125 ≥ 0)))) = some r := h
 clear h
 replace H := Option.bind_eq_some_iff.mp H
 obtain ⟨t125, A30, H⟩ := H
 replace H : (some (decide (t125 ≥ 0))) = some r := H
 have A3 := Aside0.mk A30
 clear A30
 obtain rfl := Option.some.inj H
 go_enter Try.func51, Try.ntmps51
 go_wp2_with (first | (go_at_call 62; (with_reducible refine (slices_IndexFunc_int_int_dom_in_1.calls k _ _ l0 g1_ A1 c1 l1 t125 _ ?side1 ?side2 ?side3 ?side4 ?side5 A3.out).mono ?_); (case side1 => exact CX_ HR0.out); (case side2 => exact HC0.out); (case side3 => exact CX_ HR1.out); (case side4 => exact HC1.out); (case side5 => exact (by first | exact hcb1 | simpa using hcb1)); rintro e w' ⟨rfl, ⟨nd, rfl⟩⟩))
 go_ret
 exact ⟨by first | rfl | (simp; done) | (simp [*]; done), by repeat (first | exact Drawn0.refl _ | apply Drawn0.step)⟩

def dom_in.f (k : Nat) (l0 : List Int) (l1 : List Int) : Option (Bool) := (dom_right.f k l0).bind fun t => if t = true then (slices_ContainsFunc_int_int_dom_in_1.f k l1 l0).bind fun u => some (!u) else some false
theorem dom_in.mono : ∀ a0 a1 k, LeO (dom_in.f k a0 a1) (dom_in.f (k + 1) a0 a1) := by
 intro a0 a1 k
 unfold dom_in.f
 exact LeO.bind (dom_right.mono _ _) (fun _ => LeO.ite (LeO.bind (slices_ContainsFunc_int_int_dom_in_1.mono _ _ _) (fun _ => LeO.refl _)) (LeO.refl _))
set_option maxHeartbeats 8000000 in
set_option maxRecDepth 100000 in
theorem dom_in.calls (k : Nat) (A0 : Option Addr) (c0 : Nat) (l0 : List Int) (A1 : Option Addr) (c1 : Nat) (l1 : List Int) (r : Bool) (w : World) (hr0 : Kd.C (Kd.int .i64) w A0 l0.length l0) (hc0 : l0.length ≤ c0) (hr1 : Kd.C (Kd.int .i64) w A1 l1.length l1) (hc1 : l1.length ≤ c1) (h : dom_in.f k l0 l1 = some r) :
 Calls Try.prog 35 #[.slice A0 l0.length c0, .slice A1 l1.length c1] w fun e w' => e = .returned (.bool r) ∧ Below w.heap.size w w' := by
 have HR0 := Aside0.mk hr0
 have HC0 := Aside0.mk hc0
 have HR1 := Aside0.mk hr1
 have HC1 := Aside0.mk hc1
 clear hr0 hc0 hr1 hc1
 have HB := Aside0.mk (Below.refl w.heap.size w)
 have H : ((dom_right.f k l0).bind fun t => if t = true then (slices_ContainsFunc_int_int_dom_in_1.f k l1 l0).bind fun u => some (!u) else some false) = some r := h
 clear h
 replace H := Option.bind_eq_some_iff.mp H
 obtain ⟨t1, A1_, H⟩ := H
 have A3 := Aside0.mk A1_
 clear A1_
 go_enter Try.func35, Try.ntmps35
 go_upto_region 1 with (first | ((with_reducible refine gate_dst (N := 2) rfl ?_); refine box_event ?hg (N := 2) ?hd (cs := #[.slice A0 l0.length c0]) (t := 31) ?hr ?_; (case hd => rfl); (case hg => rfl); (case hr => first | (go_simp; done) | (go_simp; rfl)); intro gb hg w3 hbox hb; have n0_ := Aside0.mk (below_step (B_) hb); have n1_ := Aside0.mk (hbox); clear HB; have HB := n0_; have BK := n1_; clear n0_ n1_; clear hb hbox hg))
 have hcz : w3.cell? ⟨gb, 0, none⟩ = some (.slice A0 l0.length c0) := (blk_cell BK.out 0).trans rfl
 have hr0 := Kd.C_below HR0.out HB.out
 have hr1 := Kd.C_below HR1.out HB.out
 have HR0' := Aside0.mk hr0
 have HR1' := Aside0.mk hr1
 clear hr0 hr1
 by_cases c7 : t1 = true
 ·subst c7
  replace H : ((slices_ContainsFunc_int_int_dom_in_1.f k l1 l0).bind fun u => some (!u)) = some r := by rw [if_pos rfl] at H; exact H
  replace H := Option.bind_eq_some_iff.mp H
  obtain ⟨u1, A2_, H⟩ := H
  have A4 := Aside0.mk A2_
  clear A2_
  obtain rfl := Option.some.inj H
  clear H
  go_wp2_with (first | (go_at_call 50; (with_reducible refine (dom_right.calls k _ _ l0 true _ ?side1 ?side2 A3.out).mono ?_); (case side1 => repeat (first | exact HR0'.out | (with_reducible refine Kd.C_alloc ?_ _) | (with_reducible refine Kd.C_drewN ?_ _) | (with_reducible refine Kd.C_drew ?_))); (case side2 => exact HC0.out); rintro e w' ⟨rfl, ⟨nd, rfl⟩⟩) | (go_at_call 51; (with_reducible refine (slices_ContainsFunc_int_int_dom_in_1.calls k _ _ l1 gb A0 c0 l0 u1 _ ?side1 ?side2 ?side3 ?side4 ?side5 A4.out).mono ?_); (case side1 => repeat (first | exact HR1'.out | (with_reducible refine Kd.C_alloc ?_ _) | (with_reducible refine Kd.C_drewN ?_ _) | (with_reducible refine Kd.C_drew ?_))); (case side2 => exact HC1.out); (case side3 => repeat (first | exact HR0'.out | (with_reducible refine Kd.C_alloc ?_ _) | (with_reducible refine Kd.C_drewN ?_ _) | (with_reducible refine Kd.C_drew ?_))); (case side4 => exact HC0.out); (case side5 => exact (by first | exact hcz | simpa using hcz)); rintro e w' ⟨rfl, ⟨nd, rfl⟩⟩))
  go_ret
  exact ⟨by first | rfl | (simp; done) | (simp [*]; done), B_⟩
 replace c7 := Bool.eq_false_iff.mpr c7
 subst c7
 replace H : some false = some r := by rw [if_neg (show ¬ (false = true) by decide)] at H; exact H
 obtain rfl := Option.some.inj H
 clear H
 go_wp2_with (first | (go_at_call 50; (with_reducible refine (dom_right.calls k _ _ l0 false _ ?side1 ?side2 A3.out).mono ?_); (case side1 => repeat (first | exact HR0'.out | (with_reducible refine Kd.C_alloc ?_ _) | (with_reducible refine Kd.C_drewN ?_ _) | (with_reducible refine Kd.C_drew ?_))); (case side2 => exact HC0.out); rintro e w' ⟨rfl, ⟨nd, rfl⟩⟩))
 go_ret
 exact ⟨by first | rfl | (simp; done) | (simp [*]; done), B_⟩

end Go.Proofs.Ytoekeknfeinphaa.G
